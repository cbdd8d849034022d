/- The laws' do: Alloc, of a free record. -/
import Derived.Test.YtllibgjajlgnbaaSlabDo2
namespace Go.Proofs.Ytllibgjajlgnbaa.SlabDo
open Go Go.RowKit Go.Proofs.Ytllibgjajlgnbaa.Only Go.Proofs.Ytllibgjajlgnbaa.Mem Go.Proofs.Ytllibgjajlgnbaa.New Go.Proofs.Ytllibgjajlgnbaa.Ref Go.Proofs.Ytllibgjajlgnbaa.Slab Go.Proofs.Ytllibgjajlgnbaa.SlabRef
set_option linter.unusedVariables false
set_option linter.unusedSimpArgs false

theorem u64s_one (xs : List Int) : ∀ u ∈ xs.map (Value.int .u64), u.oneCell' = true := by
  intro u hu
  obtain ⟨x, -, rfl⟩ := List.mem_map.1 hu
  rfl

set_option maxHeartbeats 8000000 in
set_option maxRecDepth 100000 in
theorem do1_ok {B sb p : Nat} {v : Value} {n : Int} {vg vt vr xC xG xT xR vL : Value} {C : List Int} {s : Sl} {L : List Int} {w : World} (h : BothAt B sb p v n vg vt vr xC xG xT xR vL C s L w) (hL : L.length ≤ 1000) (ok : s.Ok) (hn : 0 ≤ n ∧ n < 1000000000) (cnt : Int) (hc : 0 ≤ cnt ∧ cnt < 1000000000) (px : Int) (t : List Int) (hno : s.row = px :: t) (i : Int) (N : Nat) (hN : N ≤ 255) (V raw : Int) :
    Calls Try.prog 36 #[.agg (bv sb p xC cnt s xG xT xR vL), .agg (dv 1 i N V raw)] w (Did B sb p v vg vt vr n cnt (zeros C (s.first + px * s.words) s.words.toNat) (allocS s px t) (L ++ [refOf px (s.gens.getD px.toNat 0 + 1)]) w) := by
  have f0 := Fr.start (fun k hk => (h.sl.low k hk).2) (bv sb p xC cnt s xG xT xR vL) (dv 1 i N V raw) z10
  have H := Lib.hid h
  obtain ⟨AC, cC, e1, -⟩ := own_any h.x.c.own
  obtain ⟨AG, cG, e2, -⟩ := own_any h.x.g
  obtain ⟨AT, cT, e3, -⟩ := own_any h.x.t
  obtain ⟨AR, cR, e4, -⟩ := own_any h.x.r
  obtain ⟨AL, cL, e5, -⟩ := own_any h.l
  subst e1 e2 e3 e4 e5
  have ho0 := own_keep h.l (ofBelow (S := fun _ => False) ((((Below.refl w.heap.size w).alloc (Nat.le_refl _) (.cells (bv sb p (.slice AC C.length cC) cnt s (.slice AG s.gens.length cG) (.slice AT s.taken.length cT) (.slice AR s.row.length cR) (.slice AL L.length cL)) 54)).alloc (by simp) (.cells (dv 1 i N V raw) 75)).alloc (by simp <;> omega) (.cells z10 54))) (fun _ _ x => x)
  have TT := told ho0 hL N hN
  generalize toldV L N = r at *
  clear h ho0
  unfold bv dv z10 at *
  generalize hw1 : (((w.alloc (.cells _ _)).alloc (.cells _ _)).alloc (.cells _ _)) = w1 at *
  have s1 := f0.size
  have f0' : Hid (Below w.heap.size w w1) := Lib.hid (hw1 ▸ ((((Below.refl w.heap.size w).alloc (Nat.le_refl _) _).alloc (by simp) _).alloc (by simp <;> omega) _))
  have A1 := (alloc (H.out.sl.below f0'.out) ok hn px t hno (Nat.le_refl _))
  have X1 := (cells10 f0.b).1
  have D1 := cells5 f0.c
  obtain ⟨d0, d1, d2, d3, d4, d5, d6, d7, d8, d9⟩ := X1
  obtain ⟨g0, g1, g2, g3, g4⟩ := D1
  replace f0 := Lib.hid f0
  replace hno := Lib.hid hno
  replace TT := Lib.hid TT
  replace A1 := Lib.hid A1
  replace hw1 := Lib.hid hw1
  obtain ⟨rf, hrf⟩ : ∃ rf, refOf px (s.gens.getD px.toNat 0 + 1) = rf := ⟨_, rfl⟩
  obtain ⟨S2, hS2⟩ : ∃ S2, allocS s px t = S2 := ⟨_, rfl⟩
  obtain ⟨C2, hC2⟩ : ∃ C2, zeros C (s.first + px * s.words) s.words.toNat = C2 := ⟨_, rfl⟩
  rw [hrf, hS2, hC2]
  obtain ⟨Q, hQ⟩ : ∃ Q, Did B sb p v vg vt vr n cnt C2 S2 (L ++ [rf]) w = Q := ⟨_, rfl⟩
  rw [hQ]
  obtain ⟨i0, hi, hzz⟩ := Option.map_eq_some_iff.1 info_u64
  simp only [Prod.mk.injEq] at hzz
  obtain ⟨hz0, hz1, hz2⟩ := hzz
  have sB : B ≤ w.heap.size := by have := H.out.sl.low sb (.inl rfl); omega
  have RR := fun (w2 : World) (on2 : Only (SlF sb p v vg vt vr) w1 w2) => ralloc ((H.out.x.below f0'.out).keep on2 (fun k hk e => by
    obtain ⟨q1, q2, q3, q4, -⟩ := H.out.far k e
    rcases hk with hk | hk | hk | hk
    · exact q1 hk
    · exact q2 hk
    · exact q3 hk
    · exact q4 hk)) (Nat.le_trans sB (Nat.le_trans f0'.out.size on2.size)) ok cnt hc px t hno.out
  have RC : ∀ w2, Only (SlF sb p v vg vt vr) w1 w2 → ∀ k, (Value.slice AL L.length cL).ownBlock = some k → w2.heap[k]? = w1.heap[k]? := fun w2 on2 k hk => on2.block k (Nat.lt_of_lt_of_le (own_lt H.out.l hk).2 f0'.out.size) (fun e => (H.out.far k e).2.2.2.2 hk)
  have hw0 := ok.w0
  replace hw0 := Lib.hid hw0
  replace RR := Lib.hid RR
  replace RC := Lib.hid RC
  replace hrf := Lib.hid hrf
  replace hS2 := Lib.hid hS2
  replace hC2 := Lib.hid hC2
  replace hQ := Lib.hid hQ
  clear ok
  go_enter Try.func36, Try.ntmps36
  go_wp2_with fail
  rw [hw1.out]
  refine TT.out.mono ?_
  rintro e w' ⟨rfl, rfl⟩
  clear TT hw1
  go_wp2_with fail
  refine A1.out.mono ?_
  rintro e w2 ⟨he, vr', n', n1, n2, hvr, sl2, on2⟩
  rw [hrf.out] at he
  rw [hS2.out, hC2.out] at sl2
  subst he
  clear A1
  have f2 := f0.out.step on2
  have s2 := f2.size
  clear d0 d1 d2 d3 d4 d5 d6 d7 d8 d9 g0 g1 g2 g3 g4
  obtain ⟨⟨d0, d1, d2, d3, d4, d5, d6, d7, d8, d9⟩, -⟩ := cells10 f2.b
  obtain ⟨g0, g1, g2, g3, g4⟩ := cells5 f2.c
  have R2 := RR.out w2 on2
  replace f2 := Lib.hid f2
  replace on2 := Lib.hid on2
  replace sl2 := Lib.hid sl2
  replace hvr := Lib.hid hvr
  replace R2 := Lib.hid R2
  replace n1 := Lib.hid n1
  replace n2 := Lib.hid n2
  clear RR
  go_wp2_with fail
  refine R2.out.mono ?_
  rintro e w3 ⟨xC', xG', xT', xR', cnt', he, m1, m2, rs, b23, fr⟩
  rw [hrf.out] at he
  rw [hS2.out] at he rs
  rw [hC2.out] at rs
  subst he
  obtain ⟨BC, bC, e1, -⟩ := own_any rs.c.own
  obtain ⟨BG, bG, e2, -⟩ := own_any rs.g
  obtain ⟨BT, bT, e3, -⟩ := own_any rs.t
  obtain ⟨BR, bR, e4, -⟩ := own_any rs.r
  subst e1 e2 e3 e4
  have f3 := f2.out.below b23
  have s3 := f3.size
  have hlt0 : w.heap.size < w3.heap.size := by omega
  clear d0 d1 d2 d3 d4 d5 d6 d7 d8 d9 g0 g1 g2 g3 g4
  obtain ⟨⟨d0, d1, d2, d3, d4, d5, d6, d7, d8, d9⟩, fd⟩ := cells10 f3.b
  have fd2 := fd 2
  have fd3 := fd 3
  have fd4 := fd 4
  have fd5 := fd 5
  have fd6 := fd 6
  have fd7 := fd 7
  have fd8 := fd 8
  clear R2
  replace rs := Lib.hid rs
  replace b23 := Lib.hid b23
  replace f3 := Lib.hid f3
  replace fr := Lib.hid fr
  replace m1 := Lib.hid m1
  replace m2 := Lib.hid m2
  clear fd
  unfold xv
  go_upto_region 9 with fail
  obtain ⟨w5, e5, x5, on5⟩ := putX f3.out.b (.slice BC C2.length bC) (.int .i64 cnt') (.int .i64 S2.first) (.int .i64 S2.words) (.slice BG S2.gens.length bG) (.slice BT S2.taken.length bT) (.slice BR S2.row.length bR) (.cells #[.slice BC C2.length bC, .int .i64 cnt', .int .i64 S2.first, .int .i64 S2.words, .slice BG S2.gens.length bG, .slice BT S2.taken.length bT, .slice BR S2.row.length bR] 52)
  rw [← e5]
  clear e5
  have f5 := f3.out.putB x5 on5
  have s5 := f5.size
  have hlt5 : w.heap.size < w5.heap.size := by omega
  have q5 : B ≤ w5.heap.size := by omega
  clear d0 d1 d2 d3 d4 d5 d6 d7 d8 d9 fd2 fd3 fd4 fd5 fd6 fd7 fd8
  obtain ⟨⟨d0, d1, d2, d3, d4, d5, d6, d7, d8, d9⟩, -⟩ := cells10 f5.b
  have L1 := own_keep H.out.l (ofBelow (S := fun _ => False) f0'.out) (fun _ _ x => x)
  have L2 := own_keep L1 on2.out (fun k hk e => (H.out.far k e).2.2.2.2 hk)
  have L3 := own_keep L2 (ofBelow (S := fun _ => False) b23.out) (fun _ _ x => x)
  have L5 := own_keep L3 on5 (fun k hk e => by have e : k = w.heap.size := e; have := (own_lt H.out.l hk).2; omega)
  have hm1 : 0 + L.length ≤ maxLen := by unfold maxLen; omega
  have hn1 : (0 + L.length) * 8 ≤ 140737488355328 := by omega
  replace f5 := Lib.hid f5
  replace on5 := Lib.hid on5
  replace L5 := Lib.hid L5
  clear L1 L2 L3 x5
  go_wp2_with (at_builtin; refine append_rows rfl _ _ 22 rfl B 26 i0 (.int .u64 0) 8 Try.underlying22 hi hz0 hz1 hz2 rfl _ _ _ rfl (newEmpty w5 26 B q5) B _ L.length (L.map (Value.int .u64)) rfl (own_alloc L5.out _) (u64s_one _) hm1 hn1 (le_alloc q5 _) ?_)
  intro v1 w6 hv1 hg1 hat1
  have Bel6 : Below w5.heap.size w5 w6 := bel_grown ((Below.refl _ _).alloc (Nat.le_refl _) _) hg1 (fun k hk => by simp [Value.ownBlock] at hk; omega) (le_alloc (Nat.le_refl _) _)
  have hr1 : ∀ k, v1.ownBlock = some k → w5.heap.size ≤ k := by
    intro k hk
    rcases hat1 with e | e
    · rw [hk] at e; simp [Value.ownBlock] at e; omega
    · rw [hk] at e; simp at e; omega
  obtain ⟨A1, c1, e1, -⟩ := own_any hv1
  subst e1
  have q6 : B ≤ w6.heap.size := Nat.le_trans q5 Bel6.size
  have hm3 : L.length + 1 ≤ maxLen := by unfold maxLen; omega
  have hn3 : (L.length + 1) * 8 ≤ 140737488355328 := by omega
  have hv1a := own_alloc hv1 (.cells #[.int .u64 rf] 26)
  replace Bel6 := Lib.hid Bel6
  replace hv1a := Lib.hid hv1a
  replace hr1 := Lib.hid hr1
  clear hv1 hg1 hat1 d0 d1 d2 d3 d4 d5 d6 d7 d8 d9
  go_wp2_with (at_builtin; refine wpList_append_own_at _ rfl _ _ 22 rfl B 26 i0 (.int .u64 0) 1 8 Try.underlying22 hi hz0 hz1 hz2 rfl (by decide) _ _ _ rfl hv1a.out ⟨w6.heap.size, 0, none⟩ 1 1 [.int .u64 rf] rfl rfl (cell_one_new _ _ _) (u64s_one [rf]) hm3 hn3 (le_alloc q6 _) ?_)
  intro v2 w7 hv2 hg2 _ hat2
  have Bel7 : Below w5.heap.size w5 w7 := bel_grown (Bel6.out.alloc Bel6.out.size _) hg2 hr1.out (le_alloc Bel6.out.size _)
  have hr2 : ∀ k, v2.ownBlock = some k → w5.heap.size ≤ k := by
    intro k hk
    rcases hat2 with e | e
    · exact hr1.out k (e ▸ hk)
    · rw [hk] at e; simp at e; have := Bel6.out.size; omega
  obtain ⟨A2, c2, e2, -⟩ := own_any hv2
  subst e2
  have f7 := f5.out.below Bel7
  have s7 := f7.size
  obtain ⟨⟨d0, d1, d2, d3, d4, d5, d6, d7, d8, d9⟩, fd⟩ := cells10 f7.b
  have fd9 := fd 9
  clear fd
  have hlt7 : w.heap.size < w7.heap.size := by omega
  have LL : w7.ownsRow B 26 1 (.slice A2 (L ++ [rf]).length c2) (L ++ [rf]).length ((L ++ [rf]).map (Value.int .u64)) := by simpa using hv2
  have eL : (Value.slice A2 (L.length + 1) c2) = (.slice A2 (L ++ [rf]).length c2) := by simp
  replace LL := Lib.hid LL
  replace eL := Lib.hid eL
  replace Bel7 := Lib.hid Bel7
  replace f7 := Lib.hid f7
  replace hr2 := Lib.hid hr2
  clear hv1a hv2 hg2 hat2 hr1
  go_upto_region 11 with fail
  rw [eL.out]
  have hr2' := Lib.hid (show ∀ k, (Value.slice A2 (L ++ [rf]).length c2).ownBlock = some k → w5.heap.size ≤ k from fun k hk => hr2.out k (by rw [eL.out]; exact hk))
  clear eL hr2
  obtain ⟨L2, hL2⟩ : ∃ L2, L ++ [rf] = L2 := ⟨_, rfl⟩
  rw [hL2] at LL hQ hr2' ⊢
  replace hL2 := Lib.hid hL2
  obtain ⟨x8, on8⟩ := putL f7.out.b (.slice A2 L2.length c2)
  have f8 := f7.out.putB x8 on8
  generalize (w7.setCell ⟨w.heap.size, 9, none⟩ (.slice A2 L2.length c2)) = w8 at *
  have s8 := f8.size
  have hlt5 : w.heap.size < w8.heap.size := by omega
  have hlt6 : w.heap.size + 1 + 1 < w8.heap.size := by omega
  clear d0 d1 d2 d3 d4 d5 d6 d7 d8 d9 fd9
  obtain ⟨⟨d0, d1, d2, d3, d4, d5, d6, d7, d8, d9⟩, -⟩ := cells10 f8.b
  obtain ⟨⟨z0, z1, z2, z3, z4, z5, z6, z7, z8, z9⟩, fz⟩ := cells10 f8.z
  have h0 := fz 0
  have h1 := fz 1
  have h2 := fz 2
  have h3 := fz 3
  have h4 := fz 4
  have h5 := fz 5
  have h6 := fz 6
  have h7 := fz 7
  have h8 := fz 8
  have h9 := fz 9
  clear fz
  obtain ⟨w9, e9, ⟨y0, y1, y2, y3, y4, y5, y6, y7, y8, y9⟩, -, on9⟩ := end10 f8.z (Below.refl 0 w8) (Nat.zero_le _) (.pointer (some ⟨sb, 0, none⟩)) (.pointer (some ⟨p, 0, none⟩)) (.slice BC C2.length bC) (.int .i64 cnt') (.int .i64 S2.first) (.int .i64 S2.words) (.slice BG S2.gens.length bG) (.slice BT S2.taken.length bT) (.slice BR S2.row.length bR) (.slice A2 L2.length c2)
  replace f8 := Lib.hid f8
  replace on8 := Lib.hid on8
  replace on9 := Lib.hid on9
  replace e9 := Lib.hid e9
  clear x8
  go_wp2
  rw [← e9.out, ← hQ.out]
  have on : Only (fun k => k = w.heap.size ∨ k = w.heap.size + 1 + 1) w3 w9 := (((on5.out.mono (fun _ _ e => .inl e)).trans (ofBelow (S := fun _ => False) Bel7.out) (fun _ _ e => e.elim)).trans (on8.out.mono (fun _ _ e => .inl e)) (fun _ _ e => e)).trans (on9.out.mono (fun _ _ e => .inr e)) (fun _ _ e => e)
  have l9 : w9.ownsRow B 26 1 (.slice A2 L2.length c2) L2.length (L2.map (Value.int .u64)) := own_keep (own_keep LL.out on8.out (fun k hk e => by have e : k = w.heap.size := e; have := hr2'.out k hk; omega)) on9.out (fun k hk e => by have e : k = w.heap.size + 1 + 1 := e; have := hr2'.out k hk; omega)
  have s23 := b23.out.size
  have s35 := on5.out.size
  have F := fin H.out sl2.out ((ofBelow (S := SlF sb p v vg vt vr) f0'.out).trans on2.out (fun _ _ e => e)) (fun k e => .inl (hvr.out ▸ e)) rs.out fr.out b23.out f2.out.b f2.out.z on l9 (fun k e => .inr (by have := hr2'.out k e; omega))
  have w1 := hw0.out
  have p1 := n1.out
  have p2 := n2.out
  have p3 := m1.out
  have p4 := m2.out
  exact bodyPost_ret (v := .tuple #[.agg #[.pointer (some ⟨sb, 0, none⟩), .pointer (some ⟨p, 0, none⟩), .slice BC C2.length bC, .int .i64 cnt', .int .i64 S2.first, .int .i64 S2.words, .slice BG S2.gens.length bG, .slice BT S2.taken.length bT, .slice BR S2.row.length bR, .slice A2 L2.length c2], .bool true]) (by simp [results, Try.results36, go_sem, y0, y1, y2, y3, y4, y5, y6, y7, y8, y9]) rfl ⟨n', cnt', vr', _, _, _, _, _, rfl, p1, by omega, p3, by omega, F.1, F.2⟩
end Go.Proofs.Ytllibgjajlgnbaa.SlabDo
