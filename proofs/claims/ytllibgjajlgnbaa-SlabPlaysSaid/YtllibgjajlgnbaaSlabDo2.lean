/- The laws' do: Alloc, of no free record. -/
import Derived.Test.YtllibgjajlgnbaaSlabDo1
namespace Go.Proofs.Ytllibgjajlgnbaa.SlabDo
open Go Go.RowKit Go.Proofs.Ytllibgjajlgnbaa.Only Go.Proofs.Ytllibgjajlgnbaa.Mem Go.Proofs.Ytllibgjajlgnbaa.New Go.Proofs.Ytllibgjajlgnbaa.Ref Go.Proofs.Ytllibgjajlgnbaa.Slab Go.Proofs.Ytllibgjajlgnbaa.SlabRef
set_option linter.unusedVariables false
set_option linter.unusedSimpArgs false

/-- What a deed leaves. -/
def Did (B sb p : Nat) (v : Value) (vg vt vr : Value) (n cnt : Int) (C : List Int) (s : Sl) (L : List Int) (w : World) (e : Ending) (w' : World) : Prop :=
  ∃ n' cnt' vr' xC xG xT xR vL, e = .returned (.tuple #[.agg (bv sb p xC cnt' s xG xT xR vL), .bool true]) ∧ n ≤ n' ∧ n' ≤ n + 65537 ∧ cnt ≤ cnt' ∧ cnt' ≤ cnt + 65537 ∧ BothAt B sb p v n' vg vt vr' xC xG xT xR vL C s L w' ∧ Only (SlF sb p v vg vt vr) w w'

set_option maxHeartbeats 8000000 in
set_option maxRecDepth 100000 in
theorem do1_no {B sb p : Nat} {v : Value} {n : Int} {vg vt vr xC xG xT xR vL : Value} {C : List Int} {s : Sl} {L : List Int} {w : World} (h : BothAt B sb p v n vg vt vr xC xG xT xR vL C s L w) (hL : L.length ≤ 1000) (cnt : Int) (hno : s.row = []) (i : Int) (N : Nat) (hN : N ≤ 255) (V raw : Int) :
    Calls Try.prog 36 #[.agg (bv sb p xC cnt s xG xT xR vL), .agg (dv 1 i N V raw)] w (Did B sb p v vg vt vr n cnt C s L w) := by
  have f0 := Fr.start (fun k hk => (h.sl.low k hk).2) (bv sb p xC cnt s xG xT xR vL) (dv 1 i N V raw) z10
  have H := Lib.hid h
  obtain ⟨AC, cC, e1, -⟩ := own_any h.x.c.own
  obtain ⟨AG, cG, e2, -⟩ := own_any h.x.g
  obtain ⟨AT, cT, e3, -⟩ := own_any h.x.t
  obtain ⟨AR, cR, e4, -⟩ := own_any h.x.r
  obtain ⟨AL, cL, e5, -⟩ := own_any h.l
  subst e1 e2 e3 e4 e5
  have ho0 := own_keep h.l (ofBelow (S := fun _ => False) ((((Below.refl w.heap.size w).alloc (Nat.le_refl _) (.cells (bv sb p (.slice AC C.length cC) cnt s (.slice AG s.gens.length cG) (.slice AT s.taken.length cT) (.slice AR s.row.length cR) (.slice AL L.length cL)) 54)).alloc (by simp) (.cells (dv 1 i N V raw) 75)).alloc (by simp <;> omega) (.cells z10 54))) (fun _ _ x => x)
  have TT := told ho0 hL N hN
  generalize toldV L N = r at *
  clear h ho0
  unfold bv dv z10 at *
  generalize hw1 : (((w.alloc (.cells _ _)).alloc (.cells _ _)).alloc (.cells _ _)) = w1 at *
  have s1 := f0.size
  have f0' : Hid (Below w.heap.size w w1) := Lib.hid (hw1 ▸ ((((Below.refl w.heap.size w).alloc (Nat.le_refl _) _).alloc (by simp) _).alloc (by simp <;> omega) _))
  have A1 := (alloc_no (H.out.sl.below f0'.out) hno)
  have X1 := (cells10 f0.b).1
  have D1 := cells5 f0.c
  obtain ⟨d0, d1, d2, d3, d4, d5, d6, d7, d8, d9⟩ := X1
  obtain ⟨g0, g1, g2, g3, g4⟩ := D1
  replace f0 := Lib.hid f0
  replace hno := Lib.hid hno
  replace TT := Lib.hid TT
  replace A1 := Lib.hid A1
  replace hw1 := Lib.hid hw1
  go_enter Try.func36, Try.ntmps36
  go_wp2_with fail
  rw [hw1.out]
  refine TT.out.mono ?_
  rintro e w' ⟨rfl, rfl⟩
  clear TT hw1
  go_wp2_with fail
  refine A1.out.mono ?_
  rintro e w' ⟨rfl, rfl⟩
  clear A1
  go_wp2_with fail
  refine (ralloc_no (H.out.x.below f0'.out) cnt hno.out).mono ?_
  rintro e w2 ⟨rfl, b12⟩
  have f2 := f0.out.below b12
  have s2 := f2.size
  have hlt0 : w.heap.size < w2.heap.size := by omega
  have hlt1 : w.heap.size + 1 < w2.heap.size := by omega
  have hlt2 : w.heap.size + 1 + 1 < w2.heap.size := by omega
  clear d0 d1 d2 d3 d4 d5 d6 d7 d8 d9 g0 g1 g2 g3 g4
  obtain ⟨⟨d0, d1, d2, d3, d4, d5, d6, d7, d8, d9⟩, fd⟩ := cells10 f2.b
  obtain ⟨g0, g1, g2, g3, g4⟩ := cells5 f2.c
  have fd2 := fd 2
  have fd3 := fd 3
  have fd4 := fd 4
  have fd5 := fd 5
  have fd6 := fd 6
  have fd7 := fd 7
  have fd8 := fd 8
  replace f2 := Lib.hid f2
  replace b12 := Lib.hid b12
  clear fd
  unfold xv
  go_upto_region 9 with fail
  obtain ⟨w5, e5, x5, on5⟩ := putX f2.out.b (.slice AC C.length cC) (.int .i64 cnt) (.int .i64 s.first) (.int .i64 s.words) (.slice AG s.gens.length cG) (.slice AT s.taken.length cT) (.slice AR s.row.length cR) (.cells #[.slice AC C.length cC, .int .i64 cnt, .int .i64 s.first, .int .i64 s.words, .slice AG s.gens.length cG, .slice AT s.taken.length cT, .slice AR s.row.length cR] 52)
  rw [← e5]
  clear e5
  have f5 := f2.out.putB x5 on5
  have s5 := f5.size
  have hlt5 : w.heap.size < w5.heap.size := by omega
  have hlt6 : w.heap.size + 1 + 1 < w5.heap.size := by omega
  clear d0 d1 d2 d3 d4 d5 d6 d7 d8 d9 g0 g1 g2 g3 g4 fd2 fd3 fd4 fd5 fd6 fd7 fd8
  obtain ⟨⟨d0, d1, d2, d3, d4, d5, d6, d7, d8, d9⟩, -⟩ := cells10 f5.b
  obtain ⟨⟨z0, z1, z2, z3, z4, z5, z6, z7, z8, z9⟩, fz⟩ := cells10 f5.z
  have h0 := fz 0
  have h1 := fz 1
  have h2 := fz 2
  have h3 := fz 3
  have h4 := fz 4
  have h5 := fz 5
  have h6 := fz 6
  have h7 := fz 7
  have h8 := fz 8
  have h9 := fz 9
  clear fz
  obtain ⟨w9, e9, ⟨y0, y1, y2, y3, y4, y5, y6, y7, y8, y9⟩, -, on9⟩ := end10 f5.z (Below.refl 0 w5) (Nat.zero_le _) (.pointer (some ⟨sb, 0, none⟩)) (.pointer (some ⟨p, 0, none⟩)) (.slice AC C.length cC) (.int .i64 cnt) (.int .i64 s.first) (.int .i64 s.words) (.slice AG s.gens.length cG) (.slice AT s.taken.length cT) (.slice AR s.row.length cR) (.slice AL L.length cL)
  replace f5 := Lib.hid f5
  replace on5 := Lib.hid on5
  replace on9 := Lib.hid on9
  replace e9 := Lib.hid e9
  clear x5
  go_wp2
  rw [← e9.out]
  have on : Only (fun k => k = w.heap.size ∨ k = w.heap.size + 1 + 1) w2 w9 := (on5.out.mono (fun _ _ e => .inl e)).trans (on9.out.mono (fun _ _ e => .inr e)) (fun _ _ e => e)
  have F := fin H.out (H.out.sl.below f0'.out) (ofBelow f0'.out) (fun _ e => .inl e) ((H.out.x.below f0'.out).below b12.out) (fun _ e => .inl e) b12.out f0.out.b f0.out.z on (own_keep (own_keep (own_keep H.out.l (ofBelow (S := fun _ => False) f0'.out) (fun _ _ x => x)) (ofBelow (S := fun _ => False) b12.out) (fun _ _ x => x)) on ?_) (fun _ e => .inl e)
  · exact bodyPost_ret (v := .tuple #[.agg #[.pointer (some ⟨sb, 0, none⟩), .pointer (some ⟨p, 0, none⟩), .slice AC C.length cC, .int .i64 cnt, .int .i64 s.first, .int .i64 s.words, .slice AG s.gens.length cG, .slice AT s.taken.length cT, .slice AR s.row.length cR, .slice AL L.length cL], .bool true]) (by simp [results, Try.results36, go_sem, y0, y1, y2, y3, y4, y5, y6, y7, y8, y9]) rfl ⟨n, cnt, vr, _, _, _, _, _, rfl, by omega, by omega, by omega, by omega, F.1, F.2⟩
  · intro k e
    have := (own_lt H.out.l e).2
    omega
end Go.Proofs.Ytllibgjajlgnbaa.SlabDo
