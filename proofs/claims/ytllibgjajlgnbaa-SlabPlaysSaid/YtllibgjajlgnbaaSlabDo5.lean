/- The laws' do: Cell. Laid by gendo.py. -/
import Derived.Test.YtllibgjajlgnbaaSlabDo4
namespace Go.Proofs.Ytllibgjajlgnbaa.SlabDo
open Go Go.RowKit Go.Proofs.Ytllibgjajlgnbaa.Only Go.Proofs.Ytllibgjajlgnbaa.Mem Go.Proofs.Ytllibgjajlgnbaa.New Go.Proofs.Ytllibgjajlgnbaa.Ref Go.Proofs.Ytllibgjajlgnbaa.Slab Go.Proofs.Ytllibgjajlgnbaa.SlabRef
set_option linter.unusedVariables false
set_option linter.unusedSimpArgs false

set_option maxHeartbeats 8000000 in
set_option maxRecDepth 100000 in
theorem do3 {B sb p : Nat} {v : Value} {n : Int} {vg vt vr xC xG xT xR vL : Value} {C : List Int} {s : Sl} {L : List Int} {w : World} (h : BothAt B sb p v n vg vt vr xC xG xT xR vL C s L w) (hL : L.length ≤ 1000) (ok : s.Ok) (cnt : Int)  (i : Int) (hi64 : -9223372036854775808 ≤ i ∧ i ≤ 9223372036854775807) (N : Nat) (hN : N ≤ 255) (V raw : Int) (r : Int) (hr : 0 ≤ r ∧ r ≤ 18446744073709551615) (hrr : r = toldV L N) :
    Calls Try.prog 36 #[.agg (bv sb p xC cnt s xG xT xR vL), .agg (dv 3 i N V raw)] w (Did B sb p v vg vt vr n cnt C s L w) := by
  have f0 := Fr.start (fun k hk => (h.sl.low k hk).2) (bv sb p xC cnt s xG xT xR vL) (dv 3 i N V raw) z10
  have H := Lib.hid h
  obtain ⟨AC, cC, e1, -⟩ := own_any h.x.c.own
  obtain ⟨AG, cG, e2, -⟩ := own_any h.x.g
  obtain ⟨AT, cT, e3, -⟩ := own_any h.x.t
  obtain ⟨AR, cR, e4, -⟩ := own_any h.x.r
  obtain ⟨AL, cL, e5, -⟩ := own_any h.l
  subst e1 e2 e3 e4 e5
  have ho0 := own_keep h.l (ofBelow (S := fun _ => False) ((((Below.refl w.heap.size w).alloc (Nat.le_refl _) (.cells (bv sb p (.slice AC C.length cC) cnt s (.slice AG s.gens.length cG) (.slice AT s.taken.length cT) (.slice AR s.row.length cR) (.slice AL L.length cL)) 54)).alloc (by simp) (.cells (dv 3 i N V raw) 75)).alloc (by simp <;> omega) (.cells z10 54))) (fun _ _ x => x)
  have TT := told ho0 hL N hN
  obtain ⟨Q, hQ⟩ : ∃ Q, Did B sb p v vg vt vr n cnt C s L w = Q := ⟨_, rfl⟩
  rw [hQ]
  have sB : B ≤ w.heap.size := by have := H.out.sl.low sb (.inl rfl); omega
  subst hrr
  generalize toldV L N = tv at *
  clear h ho0
  unfold bv dv z10 at *
  generalize hw1 : (((w.alloc (.cells _ _)).alloc (.cells _ _)).alloc (.cells _ _)) = w1 at *
  have s1 := f0.size
  have f0' : Hid (Below w.heap.size w w1) := Lib.hid (hw1 ▸ ((((Below.refl w.heap.size w).alloc (Nat.le_refl _) _).alloc (by simp) _).alloc (by simp <;> omega) _))
  obtain ⟨⟨d0, d1, d2, d3, d4, d5, d6, d7, d8, d9⟩, -⟩ := cells10 f0.b
  obtain ⟨g0, g1, g2, g3, g4⟩ := cells5 f0.c
  have hlt0 : w.heap.size < w1.heap.size := by omega
  have hlt1 : w.heap.size + 1 < w1.heap.size := by omega
  replace f0 := Lib.hid f0
  replace TT := Lib.hid TT
  replace hw1 := Lib.hid hw1
  have A1 := Slab.cell (H.out.sl.below f0'.out) ok tv i hr hi64
  have A2 := fun (w2 : World) (b12 : Below w1.heap.size w1 w2) => rcell ((H.out.x.below f0'.out).below b12) ok cnt tv i hr hi64
  generalize cellN s tv i = cn at *
  generalize cellE s tv i = ce at *
  replace A1 := Lib.hid A1
  replace A2 := Lib.hid A2
  replace hQ := Lib.hid hQ
  clear ok hr
  go_enter Try.func36, Try.ntmps36
  go_wp2_with fail
  rw [hw1.out]
  refine TT.out.mono ?_
  rintro e w' ⟨rfl, rfl⟩
  clear TT hw1
  go_wp2_with fail
  refine A1.out.mono ?_
  rintro e w2 ⟨rfl, b12⟩
  clear A1
  have f2 := f0.out.below b12
  have s2 := f2.size
  have hlt2 : w.heap.size < w2.heap.size := by omega
  have hlt3 : w.heap.size + 1 < w2.heap.size := by omega
  clear d0 d1 d2 d3 d4 d5 d6 d7 d8 d9 g0 g1 g2 g3 g4
  obtain ⟨⟨d0, d1, d2, d3, d4, d5, d6, d7, d8, d9⟩, fd⟩ := cells10 f2.b
  obtain ⟨g0, g1, g2, g3, g4⟩ := cells5 f2.c
  clear fd
  replace f2 := Lib.hid f2
  have R2 := Lib.hid (A2.out w2 b12)
  replace b12 := Lib.hid b12
  clear A2
  go_wp2_with fail
  refine R2.out.mono ?_
  rintro e w3 ⟨rfl, b23⟩
  have f5 := f2.out.below b23
  clear R2 g0 g1 g2 g3 g4
  replace b23 := Lib.hid b23
  have s5 := f5.size
  have hlt5 : w.heap.size < w3.heap.size := by omega
  have hlt6 : w.heap.size + 1 + 1 < w3.heap.size := by omega
  clear d0 d1 d2 d3 d4 d5 d6 d7 d8 d9
  obtain ⟨⟨d0, d1, d2, d3, d4, d5, d6, d7, d8, d9⟩, -⟩ := cells10 f5.b
  obtain ⟨⟨z0, z1, z2, z3, z4, z5, z6, z7, z8, z9⟩, fz⟩ := cells10 f5.z
  have h0 := fz 0
  have h1 := fz 1
  have h2 := fz 2
  have h3 := fz 3
  have h4 := fz 4
  have h5 := fz 5
  have h6 := fz 6
  have h7 := fz 7
  have h8 := fz 8
  have h9 := fz 9
  clear fz
  obtain ⟨w9, e9, ⟨y0, y1, y2, y3, y4, y5, y6, y7, y8, y9⟩, -, on9⟩ := end10 f5.z (Below.refl 0 w3) (Nat.zero_le _) (.pointer (some ⟨sb, 0, none⟩)) (.pointer (some ⟨p, 0, none⟩)) (.slice AC C.length cC) (.int .i64 cnt) (.int .i64 s.first) (.int .i64 s.words) (.slice AG s.gens.length cG) (.slice AT s.taken.length cT) (.slice AR s.row.length cR) (.slice AL L.length cL)
  replace f5 := Lib.hid f5
  replace on9 := Lib.hid on9
  replace e9 := Lib.hid e9
  go_wp2
  rw [← e9.out, ← hQ.out]
  have on : Only (fun k => k = w.heap.size ∨ k = w.heap.size + 1 + 1) w3 w9 := on9.out.mono (fun _ _ e => .inr e)
  have b01 : Below w.heap.size w w2 := f0'.out.trans (b12.out.mono f0'.out.size)
  have F := fin H.out (H.out.sl.below b01) (ofBelow b01) (fun _ e => .inl e) ((H.out.x.below b01).below b23.out) (fun _ e => .inl e) b23.out f2.out.b f2.out.z on (own_keep (own_keep (own_keep H.out.l (ofBelow (S := fun _ => False) b01) (fun _ _ x => x)) (ofBelow (S := fun _ => False) b23.out) (fun _ _ x => x)) on (fun k e => by have := (own_lt H.out.l e).2; omega)) (fun _ e => .inl e)
  exact bodyPost_ret (v := .tuple #[.agg #[.pointer (some ⟨sb, 0, none⟩), .pointer (some ⟨p, 0, none⟩), .slice AC C.length cC, .int .i64 cnt, .int .i64 s.first, .int .i64 s.words, .slice AG s.gens.length cG, .slice AT s.taken.length cT, .slice AR s.row.length cR, .slice AL L.length cL], .bool true]) (by simp [results, Try.results36, go_sem, y0, y1, y2, y3, y4, y5, y6, y7, y8, y9]) rfl ⟨n, cnt, vr, _, _, _, _, _, rfl, by omega, by omega, by omega, by omega, F.1, F.2⟩

set_option maxHeartbeats 8000000 in
set_option maxRecDepth 100000 in
theorem do6 {B sb p : Nat} {v : Value} {n : Int} {vg vt vr xC xG xT xR vL : Value} {C : List Int} {s : Sl} {L : List Int} {w : World} (h : BothAt B sb p v n vg vt vr xC xG xT xR vL C s L w) (hL : L.length ≤ 1000) (ok : s.Ok) (cnt : Int) {k : Int} (hk : 5 < k) (i : Int) (hi64 : -9223372036854775808 ≤ i ∧ i ≤ 9223372036854775807) (N : Nat) (hN : N ≤ 255) (V raw : Int) (r : Int) (hr : 0 ≤ r ∧ r ≤ 18446744073709551615) (hrr : r = raw) :
    Calls Try.prog 36 #[.agg (bv sb p xC cnt s xG xT xR vL), .agg (dv k i N V raw)] w (Did B sb p v vg vt vr n cnt C s L w) := by
  have f0 := Fr.start (fun k hk => (h.sl.low k hk).2) (bv sb p xC cnt s xG xT xR vL) (dv k i N V raw) z10
  have H := Lib.hid h
  obtain ⟨AC, cC, e1, -⟩ := own_any h.x.c.own
  obtain ⟨AG, cG, e2, -⟩ := own_any h.x.g
  obtain ⟨AT, cT, e3, -⟩ := own_any h.x.t
  obtain ⟨AR, cR, e4, -⟩ := own_any h.x.r
  obtain ⟨AL, cL, e5, -⟩ := own_any h.l
  subst e1 e2 e3 e4 e5
  have ho0 := own_keep h.l (ofBelow (S := fun _ => False) ((((Below.refl w.heap.size w).alloc (Nat.le_refl _) (.cells (bv sb p (.slice AC C.length cC) cnt s (.slice AG s.gens.length cG) (.slice AT s.taken.length cT) (.slice AR s.row.length cR) (.slice AL L.length cL)) 54)).alloc (by simp) (.cells (dv k i N V raw) 75)).alloc (by simp <;> omega) (.cells z10 54))) (fun _ _ x => x)
  have TT := told ho0 hL N hN
  obtain ⟨Q, hQ⟩ : ∃ Q, Did B sb p v vg vt vr n cnt C s L w = Q := ⟨_, rfl⟩
  rw [hQ]
  have sB : B ≤ w.heap.size := by have := H.out.sl.low sb (.inl rfl); omega
  subst hrr
  generalize toldV L N = tv at *
  clear h ho0
  unfold bv dv z10 at *
  generalize hw1 : (((w.alloc (.cells _ _)).alloc (.cells _ _)).alloc (.cells _ _)) = w1 at *
  have s1 := f0.size
  have f0' : Hid (Below w.heap.size w w1) := Lib.hid (hw1 ▸ ((((Below.refl w.heap.size w).alloc (Nat.le_refl _) _).alloc (by simp) _).alloc (by simp <;> omega) _))
  obtain ⟨⟨d0, d1, d2, d3, d4, d5, d6, d7, d8, d9⟩, -⟩ := cells10 f0.b
  obtain ⟨g0, g1, g2, g3, g4⟩ := cells5 f0.c
  have hlt0 : w.heap.size < w1.heap.size := by omega
  have hlt1 : w.heap.size + 1 < w1.heap.size := by omega
  replace f0 := Lib.hid f0
  replace TT := Lib.hid TT
  replace hw1 := Lib.hid hw1
  have bk0 : decide (4 < k) = true := decide_eq_true (by omega)
  have bk1 : decide (k = 1) = false := decide_eq_false (by omega)
  have bk2 : decide (k = 2) = false := decide_eq_false (by omega)
  have bk3 : decide (k = 5) = false := decide_eq_false (by omega)
  have bk4 : decide (k = 4) = false := decide_eq_false (by omega)
  have A1 := Slab.cell (H.out.sl.below f0'.out) ok r i hr hi64
  have A2 := fun (w2 : World) (b12 : Below w1.heap.size w1 w2) => rcell ((H.out.x.below f0'.out).below b12) ok cnt r i hr hi64
  generalize cellN s r i = cn at *
  generalize cellE s r i = ce at *
  replace A1 := Lib.hid A1
  replace A2 := Lib.hid A2
  replace hQ := Lib.hid hQ
  clear ok hr
  go_enter Try.func36, Try.ntmps36
  go_wp2_with fail
  rw [hw1.out]
  refine TT.out.mono ?_
  rintro e w' ⟨rfl, rfl⟩
  clear TT hw1
  go_wp2_with fail
  refine A1.out.mono ?_
  rintro e w2 ⟨rfl, b12⟩
  clear A1
  have f2 := f0.out.below b12
  have s2 := f2.size
  have hlt2 : w.heap.size < w2.heap.size := by omega
  have hlt3 : w.heap.size + 1 < w2.heap.size := by omega
  clear d0 d1 d2 d3 d4 d5 d6 d7 d8 d9 g0 g1 g2 g3 g4
  obtain ⟨⟨d0, d1, d2, d3, d4, d5, d6, d7, d8, d9⟩, fd⟩ := cells10 f2.b
  obtain ⟨g0, g1, g2, g3, g4⟩ := cells5 f2.c
  clear fd
  replace f2 := Lib.hid f2
  have R2 := Lib.hid (A2.out w2 b12)
  replace b12 := Lib.hid b12
  clear A2
  go_wp2_with fail
  refine R2.out.mono ?_
  rintro e w3 ⟨rfl, b23⟩
  have f5 := f2.out.below b23
  clear R2 g0 g1 g2 g3 g4
  replace b23 := Lib.hid b23
  have s5 := f5.size
  have hlt5 : w.heap.size < w3.heap.size := by omega
  have hlt6 : w.heap.size + 1 + 1 < w3.heap.size := by omega
  clear d0 d1 d2 d3 d4 d5 d6 d7 d8 d9
  obtain ⟨⟨d0, d1, d2, d3, d4, d5, d6, d7, d8, d9⟩, -⟩ := cells10 f5.b
  obtain ⟨⟨z0, z1, z2, z3, z4, z5, z6, z7, z8, z9⟩, fz⟩ := cells10 f5.z
  have h0 := fz 0
  have h1 := fz 1
  have h2 := fz 2
  have h3 := fz 3
  have h4 := fz 4
  have h5 := fz 5
  have h6 := fz 6
  have h7 := fz 7
  have h8 := fz 8
  have h9 := fz 9
  clear fz
  obtain ⟨w9, e9, ⟨y0, y1, y2, y3, y4, y5, y6, y7, y8, y9⟩, -, on9⟩ := end10 f5.z (Below.refl 0 w3) (Nat.zero_le _) (.pointer (some ⟨sb, 0, none⟩)) (.pointer (some ⟨p, 0, none⟩)) (.slice AC C.length cC) (.int .i64 cnt) (.int .i64 s.first) (.int .i64 s.words) (.slice AG s.gens.length cG) (.slice AT s.taken.length cT) (.slice AR s.row.length cR) (.slice AL L.length cL)
  replace f5 := Lib.hid f5
  replace on9 := Lib.hid on9
  replace e9 := Lib.hid e9
  go_wp2
  rw [← e9.out, ← hQ.out]
  have on : Only (fun k => k = w.heap.size ∨ k = w.heap.size + 1 + 1) w3 w9 := on9.out.mono (fun _ _ e => .inr e)
  have b01 : Below w.heap.size w w2 := f0'.out.trans (b12.out.mono f0'.out.size)
  have F := fin H.out (H.out.sl.below b01) (ofBelow b01) (fun _ e => .inl e) ((H.out.x.below b01).below b23.out) (fun _ e => .inl e) b23.out f2.out.b f2.out.z on (own_keep (own_keep (own_keep H.out.l (ofBelow (S := fun _ => False) b01) (fun _ _ x => x)) (ofBelow (S := fun _ => False) b23.out) (fun _ _ x => x)) on (fun k e => by have := (own_lt H.out.l e).2; omega)) (fun _ e => .inl e)
  exact bodyPost_ret (v := .tuple #[.agg #[.pointer (some ⟨sb, 0, none⟩), .pointer (some ⟨p, 0, none⟩), .slice AC C.length cC, .int .i64 cnt, .int .i64 s.first, .int .i64 s.words, .slice AG s.gens.length cG, .slice AT s.taken.length cT, .slice AR s.row.length cR, .slice AL L.length cL], .bool true]) (by simp [results, Try.results36, go_sem, y0, y1, y2, y3, y4, y5, y6, y7, y8, y9]) rfl ⟨n, cnt, vr, _, _, _, _, _, rfl, by omega, by omega, by omega, by omega, F.1, F.2⟩

set_option maxHeartbeats 8000000 in
set_option maxRecDepth 100000 in
theorem do0 {B sb p : Nat} {v : Value} {n : Int} {vg vt vr xC xG xT xR vL : Value} {C : List Int} {s : Sl} {L : List Int} {w : World} (h : BothAt B sb p v n vg vt vr xC xG xT xR vL C s L w) (hL : L.length ≤ 1000) (ok : s.Ok) (cnt : Int) {k : Int} (hk : k < 1) (i : Int) (hi64 : -9223372036854775808 ≤ i ∧ i ≤ 9223372036854775807) (N : Nat) (hN : N ≤ 255) (V raw : Int) (r : Int) (hr : 0 ≤ r ∧ r ≤ 18446744073709551615) (hrr : r = raw) :
    Calls Try.prog 36 #[.agg (bv sb p xC cnt s xG xT xR vL), .agg (dv k i N V raw)] w (Did B sb p v vg vt vr n cnt C s L w) := by
  have f0 := Fr.start (fun k hk => (h.sl.low k hk).2) (bv sb p xC cnt s xG xT xR vL) (dv k i N V raw) z10
  have H := Lib.hid h
  obtain ⟨AC, cC, e1, -⟩ := own_any h.x.c.own
  obtain ⟨AG, cG, e2, -⟩ := own_any h.x.g
  obtain ⟨AT, cT, e3, -⟩ := own_any h.x.t
  obtain ⟨AR, cR, e4, -⟩ := own_any h.x.r
  obtain ⟨AL, cL, e5, -⟩ := own_any h.l
  subst e1 e2 e3 e4 e5
  have ho0 := own_keep h.l (ofBelow (S := fun _ => False) ((((Below.refl w.heap.size w).alloc (Nat.le_refl _) (.cells (bv sb p (.slice AC C.length cC) cnt s (.slice AG s.gens.length cG) (.slice AT s.taken.length cT) (.slice AR s.row.length cR) (.slice AL L.length cL)) 54)).alloc (by simp) (.cells (dv k i N V raw) 75)).alloc (by simp <;> omega) (.cells z10 54))) (fun _ _ x => x)
  have TT := told ho0 hL N hN
  obtain ⟨Q, hQ⟩ : ∃ Q, Did B sb p v vg vt vr n cnt C s L w = Q := ⟨_, rfl⟩
  rw [hQ]
  have sB : B ≤ w.heap.size := by have := H.out.sl.low sb (.inl rfl); omega
  subst hrr
  generalize toldV L N = tv at *
  clear h ho0
  unfold bv dv z10 at *
  generalize hw1 : (((w.alloc (.cells _ _)).alloc (.cells _ _)).alloc (.cells _ _)) = w1 at *
  have s1 := f0.size
  have f0' : Hid (Below w.heap.size w w1) := Lib.hid (hw1 ▸ ((((Below.refl w.heap.size w).alloc (Nat.le_refl _) _).alloc (by simp) _).alloc (by simp <;> omega) _))
  obtain ⟨⟨d0, d1, d2, d3, d4, d5, d6, d7, d8, d9⟩, -⟩ := cells10 f0.b
  obtain ⟨g0, g1, g2, g3, g4⟩ := cells5 f0.c
  have hlt0 : w.heap.size < w1.heap.size := by omega
  have hlt1 : w.heap.size + 1 < w1.heap.size := by omega
  replace f0 := Lib.hid f0
  replace TT := Lib.hid TT
  replace hw1 := Lib.hid hw1
  have bk0 : decide (4 < k) = false := decide_eq_false (by omega)
  have bk1 : decide (k < 1) = true := decide_eq_true (by omega)
  have bk2 : decide (k = 1) = false := decide_eq_false (by omega)
  have bk3 : decide (k = 2) = false := decide_eq_false (by omega)
  have bk4 : decide (k = 5) = false := decide_eq_false (by omega)
  have bk5 : decide (k = 4) = false := decide_eq_false (by omega)
  have A1 := Slab.cell (H.out.sl.below f0'.out) ok r i hr hi64
  have A2 := fun (w2 : World) (b12 : Below w1.heap.size w1 w2) => rcell ((H.out.x.below f0'.out).below b12) ok cnt r i hr hi64
  generalize cellN s r i = cn at *
  generalize cellE s r i = ce at *
  replace A1 := Lib.hid A1
  replace A2 := Lib.hid A2
  replace hQ := Lib.hid hQ
  clear ok hr
  go_enter Try.func36, Try.ntmps36
  go_wp2_with fail
  rw [hw1.out]
  refine TT.out.mono ?_
  rintro e w' ⟨rfl, rfl⟩
  clear TT hw1
  go_wp2_with fail
  refine A1.out.mono ?_
  rintro e w2 ⟨rfl, b12⟩
  clear A1
  have f2 := f0.out.below b12
  have s2 := f2.size
  have hlt2 : w.heap.size < w2.heap.size := by omega
  have hlt3 : w.heap.size + 1 < w2.heap.size := by omega
  clear d0 d1 d2 d3 d4 d5 d6 d7 d8 d9 g0 g1 g2 g3 g4
  obtain ⟨⟨d0, d1, d2, d3, d4, d5, d6, d7, d8, d9⟩, fd⟩ := cells10 f2.b
  obtain ⟨g0, g1, g2, g3, g4⟩ := cells5 f2.c
  clear fd
  replace f2 := Lib.hid f2
  have R2 := Lib.hid (A2.out w2 b12)
  replace b12 := Lib.hid b12
  clear A2
  go_wp2_with fail
  refine R2.out.mono ?_
  rintro e w3 ⟨rfl, b23⟩
  have f5 := f2.out.below b23
  clear R2 g0 g1 g2 g3 g4
  replace b23 := Lib.hid b23
  have s5 := f5.size
  have hlt5 : w.heap.size < w3.heap.size := by omega
  have hlt6 : w.heap.size + 1 + 1 < w3.heap.size := by omega
  clear d0 d1 d2 d3 d4 d5 d6 d7 d8 d9
  obtain ⟨⟨d0, d1, d2, d3, d4, d5, d6, d7, d8, d9⟩, -⟩ := cells10 f5.b
  obtain ⟨⟨z0, z1, z2, z3, z4, z5, z6, z7, z8, z9⟩, fz⟩ := cells10 f5.z
  have h0 := fz 0
  have h1 := fz 1
  have h2 := fz 2
  have h3 := fz 3
  have h4 := fz 4
  have h5 := fz 5
  have h6 := fz 6
  have h7 := fz 7
  have h8 := fz 8
  have h9 := fz 9
  clear fz
  obtain ⟨w9, e9, ⟨y0, y1, y2, y3, y4, y5, y6, y7, y8, y9⟩, -, on9⟩ := end10 f5.z (Below.refl 0 w3) (Nat.zero_le _) (.pointer (some ⟨sb, 0, none⟩)) (.pointer (some ⟨p, 0, none⟩)) (.slice AC C.length cC) (.int .i64 cnt) (.int .i64 s.first) (.int .i64 s.words) (.slice AG s.gens.length cG) (.slice AT s.taken.length cT) (.slice AR s.row.length cR) (.slice AL L.length cL)
  replace f5 := Lib.hid f5
  replace on9 := Lib.hid on9
  replace e9 := Lib.hid e9
  go_wp2
  rw [← e9.out, ← hQ.out]
  have on : Only (fun k => k = w.heap.size ∨ k = w.heap.size + 1 + 1) w3 w9 := on9.out.mono (fun _ _ e => .inr e)
  have b01 : Below w.heap.size w w2 := f0'.out.trans (b12.out.mono f0'.out.size)
  have F := fin H.out (H.out.sl.below b01) (ofBelow b01) (fun _ e => .inl e) ((H.out.x.below b01).below b23.out) (fun _ e => .inl e) b23.out f2.out.b f2.out.z on (own_keep (own_keep (own_keep H.out.l (ofBelow (S := fun _ => False) b01) (fun _ _ x => x)) (ofBelow (S := fun _ => False) b23.out) (fun _ _ x => x)) on (fun k e => by have := (own_lt H.out.l e).2; omega)) (fun _ e => .inl e)
  exact bodyPost_ret (v := .tuple #[.agg #[.pointer (some ⟨sb, 0, none⟩), .pointer (some ⟨p, 0, none⟩), .slice AC C.length cC, .int .i64 cnt, .int .i64 s.first, .int .i64 s.words, .slice AG s.gens.length cG, .slice AT s.taken.length cT, .slice AR s.row.length cR, .slice AL L.length cL], .bool true]) (by simp [results, Try.results36, go_sem, y0, y1, y2, y3, y4, y5, y6, y7, y8, y9]) rfl ⟨n, cnt, vr, _, _, _, _, _, rfl, by omega, by omega, by omega, by omega, F.1, F.2⟩

end Go.Proofs.Ytllibgjajlgnbaa.SlabDo
