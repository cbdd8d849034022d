/- The reference's cells: each of its functions answers, in new memory alone. -/
import Derived.Test.YtllibgjajlgnbaaNew
import Derived.LoopTactic
namespace Go.Proofs.Ytllibgjajlgnbaa.Ref
open Go Go.RowKit Go.Proofs.Ytllibgjajlgnbaa.Only Go.Proofs.Ytllibgjajlgnbaa.Mem Go.Proofs.Ytllibgjajlgnbaa.New
set_option linter.unusedVariables false
set_option linter.unusedSimpArgs false

/-- A Mem of the reference: its slice s, its cells D. -/
structure RefAt (B : Nat) (s : Value) (D : List Int) (w : World) : Prop where
  own : w.ownsRow B 26 1 s D.length (D.map (Value.int .u64))
  most : D.length ≤ 65536
  pos : 0 < D.length

theorem RefAt.keep {B : Nat} {s : Value} {D : List Int} {w w' : World} (h : RefAt B s D w) {S : Nat → Prop} (ho : Only S w w') (hS : ∀ k, s.ownBlock = some k → ¬ S k) : RefAt B s D w' := by
  refine ⟨⟨h.own.1, ?_⟩, h.most, h.pos⟩
  rcases h.own.2 with h2 | ⟨g, cap, cur, hg, hB, hgg, r⟩
  · exact .inl h2
  · exact .inr ⟨g, cap, cur, hg, hB, by rw [ho.block g (lt_of_heap hgg) (hS g (by rw [hg]; rfl))]; exact hgg, r⟩
theorem RefAt.below {B : Nat} {s : Value} {D : List Int} {w w' : World} (h : RefAt B s D w) (hb : Below w.heap.size w w') : RefAt B s D w' := h.keep (S := fun _ => False) (ofBelow hb) (fun _ _ x => x)

/-- A struct of two cells stored whole. -/
theorem put2 {w : World} {k : Nat} {c0 c1 : Value} {T : TypeId} (h : w.heap[k]? = some (.cells #[c0, c1] T (0, 0))) (u0 u1 : Value) :
    ((w.setCell ⟨k, 0, none⟩ u0).setCell ⟨k, 1, none⟩ u1).heap[k]? = some (.cells #[u0, u1] T (0, 0)) := by
  simp [World.setCell, Array.getElem?_modify, h]
theorem cell2 {w : World} {k : Nat} {c0 c1 : Value} {T : TypeId} (h : w.heap[k]? = some (.cells #[c0, c1] T (0, 0))) :
    w.cell? ⟨k, 0, none⟩ = some c0 ∧ w.cell? ⟨k, 1, none⟩ = some c1 ∧ w.frozen? ⟨k, 0, none⟩ = false ∧ w.frozen? ⟨k, 1, none⟩ = false := by
  simp [World.cell?, World.frozen?, h]
theorem new2 (w : World) (c0 c1 : Value) (T : TypeId) : (w.alloc (.cells #[c0, c1] T)).heap[w.heap.size]? = some (.cells #[c0, c1] T (0, 0)) := heap_alloc_new w _

set_option maxRecDepth 100000 in
theorem there (s : Value) (D : List Int) (w : World) (B : Nat) (h : RefAt B s D w) (cnt a : Int) :
    Calls Try.prog 51 #[.agg #[s, .int .i64 cnt], .int .i64 a] w fun e w' => e = .returned (.bool (inR D a)) ∧ Below w.heap.size w w' := by
  obtain ⟨A, cap, rfl, hc⟩ := own_any h.own
  clear h
  by_cases h0 : 0 ≤ a
  · have b0 : decide (0 ≤ a) = true := by simpa using h0
    have e : inR D a = decide (a < D.length) := by unfold inR; simp [h0]
    rw [e]
    go_enter Try.func51, Try.ntmps51
    go_wp2
    go_ret
    exact ⟨rfl, (Below.refl _ _).alloc (Nat.le_refl _) _⟩
  · have b0 : decide (0 ≤ a) = false := by simpa using h0
    have e : inR D a = false := by unfold inR; simp; omega
    rw [e]
    go_enter Try.func51, Try.ntmps51
    go_wp2
    go_ret
    exact ⟨rfl, (Below.refl _ _).alloc (Nat.le_refl _) _⟩

theorem newOwn (w : World) : (w.alloc (.cells #[] 26)).ownsRow w.heap.size 26 1 (.slice (some ⟨w.heap.size, 0, none⟩) 0 0) 0 [] := by
  have := World.ownsRow_lit (base := w.heap.size) w #[] (size := 1) (e := 26) 0 (Nat.le_refl _) (by simp [maxLen]) rfl
  simpa using this

theorem u64_one (D : List Int) : ∀ u ∈ D.map (Value.int .u64), u.oneCell' = true := by
  intro u hu
  obtain ⟨n, _, rfl⟩ := List.mem_map.1 hu
  rfl

set_option maxHeartbeats 1000000 in
set_option maxRecDepth 100000 in
theorem put (s : Value) (D : List Int) (w : World) (B : Nat) (h : RefAt B s D w) (cnt : Int) (a : Nat) (ha : a < D.length) (x : Int) :
    Calls Try.prog 52 #[.agg #[s, .int .i64 cnt], .int .i64 a, .int .u64 x] w fun e w' => ∃ s' cnt', e = .returned (.agg #[s', .int .i64 cnt']) ∧ RefAt w.heap.size s' (D.set a x) w' ∧ Below w.heap.size w w' := by
  obtain ⟨i0, hi, hzz⟩ := Option.map_eq_some_iff.1 info_u64
  simp only [Prod.mk.injEq] at hzz
  obtain ⟨hz0, hz1, hz2⟩ := hzz
  obtain ⟨g, cap, hv, hB, hc, hm, hg, hcell, hf⟩ := own_shape h.own (by omega)
  subst hv
  have hb3 : Below w.heap.size w (((w.alloc (.cells #[.slice (some ⟨g, 0, none⟩) D.length cap, .int .i64 cnt] 37)).alloc (.cells #[.slice none 0 0, .int .i64 0] 37)).alloc (.cells #[] 26)) :=
    (((Below.refl _ _).alloc (Nat.le_refl _) _).alloc (by simp) _).alloc (by simp; omega) _
  have hown := newOwn ((w.alloc (.cells #[.slice (some ⟨g, 0, none⟩) D.length cap, .int .i64 cnt] 37)).alloc (.cells #[.slice none 0 0, .int .i64 0] 37))
  have hnews : ∀ j u, (D.map (Value.int .u64))[j]? = some u → (((w.alloc (.cells #[.slice (some ⟨g, 0, none⟩) D.length cap, .int .i64 cnt] 37)).alloc (.cells #[.slice none 0 0, .int .i64 0] 37)).alloc (.cells #[] 26)).cell? ((⟨g, 0, none⟩ : Addr).add j) = some u := by
    intro j u hj
    have h1 := h.own.cells (g := g) rfl j u hj
    rw [hb3.cell (by simp [Addr.add]; split <;> simpa using hg)]
    exact h1
  have hmost := h.most
  have hx : a < (D.map (Value.int .u64)).length := by simpa using ha
  have hown := Lib.hid hown
  have hnews := Lib.hid hnews
  have hb3 := Lib.hid hb3
  clear hcell hf h
  simp at hown
  go_enter Try.func52, Try.ntmps52
  go_wp2_with (at_builtin; refine wpList_append_own_at _ rfl _ _ 22 rfl (w.heap.size + 1 + 1) 26 i0 (.int .u64 0) 1 8 Try.underlying22 hi hz0 hz1 hz2 rfl (by decide) _ _ _ rfl hown.out ⟨g, 0, none⟩ D.length cap (D.map (Value.int .u64)) rfl (by simp) hnews.out (u64_one D) (by simp [maxLen]; omega) (by omega) (by simp) ?_)
  intro v' w4 hown4 hg4 _ _
  have hb4 : Below w.heap.size w w4 := hb3.out.grown hg4 (by simp; omega) (by intro k hk; simp [Value.ownBlock] at hk; omega)
  have hown4 := Lib.hid hown4
  have k0 : w4.heap[w.heap.size]? = some (.cells #[.slice (some ⟨g, 0, none⟩) D.length cap, .int .i64 cnt] 37 (0, 0)) := by
    rw [hg4.block _ (by simp; omega) (by simp [Value.ownBlock]; omega), heap_alloc_old _ _ (by simp; omega), heap_alloc_old _ _ (by simp), heap_alloc_new]
  have k1 : w4.heap[w.heap.size + 1]? = some (.cells #[.slice none 0 0, .int .i64 0] 37 (0, 0)) := by
    have hn := heap_alloc_new (w.alloc (.cells #[.slice (some ⟨g, 0, none⟩) D.length cap, .int .i64 cnt] 37)) (.cells #[.slice none 0 0, .int .i64 0] 37)
    rw [hg4.block _ (by simp) (by simp [Value.ownBlock]), heap_alloc_old _ _ (by simp)]
    simpa using hn
  obtain ⟨g', cap', hv', hB', hc', hm', hg', hcell', hf'⟩ := own_shape hown4.out (by omega)
  subst hv'
  have e1 := hcell' a ha
  have e2 := hf' a
  have n0 : g' ≠ w.heap.size := by omega
  have n1 : g' ≠ w.heap.size + 1 := by omega
  have hW5 := Lib.hid ((hb4.setCell (p := ⟨g', a, none⟩) (by simp; omega) (.int .u64 x)))
  have k05 : (w4.setCell ⟨g', a, none⟩ (.int .u64 x)).heap[w.heap.size]? = some (.cells #[.slice (some ⟨g, 0, none⟩) D.length cap, .int .i64 cnt] 37 (0, 0)) := by
    rw [Below.heap_setCell _ _ _ _ (fun e => n0 e.symm)]; exact k0
  have k15 : (w4.setCell ⟨g', a, none⟩ (.int .u64 x)).heap[w.heap.size + 1]? = some (.cells #[.slice none 0 0, .int .i64 0] 37 (0, 0)) := by
    rw [Below.heap_setCell _ _ _ _ (fun e => n1 e.symm)]; exact k1
  have hown5 := Lib.hid (own_set hown4.out a (by omega) (.int .u64 x))
  rw [← List.map_set] at hown5
  have d0 : (w4.setCell ⟨g', a, none⟩ (.int .u64 x)).cell? ⟨w.heap.size, 0, none⟩ = some (.slice (some ⟨g, 0, none⟩) D.length cap) := by simp [World.cell?, k05]
  have d1 : (w4.setCell ⟨g', a, none⟩ (.int .u64 x)).cell? ⟨w.heap.size, 1, none⟩ = some (.int .i64 cnt) := by simp [World.cell?, k05]
  have d2 : (w4.setCell ⟨g', a, none⟩ (.int .u64 x)).cell? ⟨w.heap.size + 1, 0, none⟩ = some (.slice none 0 0) := by simp [World.cell?, k15]
  have d3 : (w4.setCell ⟨g', a, none⟩ (.int .u64 x)).cell? ⟨w.heap.size + 1, 1, none⟩ = some (.int .i64 0) := by simp [World.cell?, k15]
  have d4 : (w4.setCell ⟨g', a, none⟩ (.int .u64 x)).frozen? ⟨w.heap.size + 1, 0, none⟩ = false := by simp [World.frozen?, k15]
  have d5 : (w4.setCell ⟨g', a, none⟩ (.int .u64 x)).frozen? ⟨w.heap.size + 1, 1, none⟩ = false := by simp [World.frozen?, k15]
  clear k0 k1 hcell' hf' hg4 hb4
  go_wp2
  refine bodyPost_ret (v := .agg #[.slice (some ⟨g', 0, none⟩) D.length cap', .int .i64 (wrap64 (cnt + 1))]) ?_ rfl ⟨_, _, rfl, ?_, ?_⟩
  · have hz := cell2 (put2 k15 (.slice (some ⟨g', 0, none⟩) D.length cap') (.int .i64 (wrap64 (cnt + 1))))
    generalize (((w4.setCell ⟨g', a, none⟩ (.int .u64 x)).setCell ⟨w.heap.size + 1, 0, none⟩ (.slice (some ⟨g', 0, none⟩) D.length cap')).setCell ⟨w.heap.size + 1, 1, none⟩ (.int .i64 (wrap64 (cnt + 1)))) = wz at hz ⊢
    simp [results, Try.results52, go_sem, hz]
  · refine ⟨?_, by simp; omega, by simp; omega⟩
    have h1 := ownsRow_setCell_below (base := w.heap.size + 1 + 1) hown5.out (a := ⟨w.heap.size + 1, 0, none⟩) (by simp) (.slice (some ⟨g', 0, none⟩) D.length cap')
    have h2 := ownsRow_setCell_below (base := w.heap.size + 1 + 1) h1 (a := ⟨w.heap.size + 1, 1, none⟩) (by simp) (.int .i64 (wrap64 (cnt + 1)))
    rw [List.length_set]
    obtain ⟨q1, q2⟩ := h2
    refine ⟨by simp, ?_⟩
    rcases q2 with q2 | ⟨z1, z2, z3, z4, z5, z6⟩
    · exact .inl q2
    · exact .inr ⟨z1, z2, z3, z4, by omega, z6⟩
  · exact (hW5.out.setCell (p := ⟨w.heap.size + 1, 0, none⟩) (by simp) _).setCell (p := ⟨w.heap.size + 1, 1, none⟩) (by simp) _
theorem RefAt.lower {B B' : Nat} {s : Value} {D : List Int} {w : World} (h : RefAt B s D w) (hB : B' ≤ B) : RefAt B' s D w := by
  refine ⟨⟨h.own.1, ?_⟩, h.most, h.pos⟩
  rcases h.own.2 with h2 | ⟨g, cap, cur, hg, hb, r⟩
  · exact .inl h2
  · exact .inr ⟨g, cap, cur, hg, Nat.le_trans hB hb, r⟩

/-- What a call of the reference leaves: its slice is the old one, or lies in new memory. -/
structure RefNext (B : Nat) (s s' : Value) (D' : List Int) (w w' : World) : Prop where
  ref : RefAt B s' D' w'
  new : s' = s ∨ ∀ k, s'.ownBlock = some k → w.heap.size ≤ k
  bel : Below w.heap.size w w'

theorem RefAt.gbase {B : Nat} {s : Value} {D : List Int} {w : World} (h : RefAt B s D w) {k : Nat} (hk : s.ownBlock = some k) : B ≤ k := by
  rcases h.own.2 with ⟨h2, _⟩ | ⟨g, cap, cur, hg, hb, r⟩
  · subst h2; cases hk
  · subst hg; cases hk; exact hb

/-- The two blocks of a call of the reference: its argument, its result. -/
structure Fr (w0 : World) (x0 x1 y0 y1 : Value) (w : World) : Prop where
  arg : w.heap[w0.heap.size]? = some (.cells #[x0, x1] 37 (0, 0))
  res : w.heap[w0.heap.size + 1]? = some (.cells #[y0, y1] 37 (0, 0))
  bel : Below w0.heap.size w0 w
theorem Fr.start (w0 : World) (x0 x1 y0 y1 : Value) : Fr w0 x0 x1 y0 y1 ((w0.alloc (.cells #[x0, x1] 37)).alloc (.cells #[y0, y1] 37)) := by
  refine ⟨?_, ?_, ((Below.refl _ _).alloc (Nat.le_refl _) _).alloc (by simp) _⟩
  · rw [heap_alloc_old _ _ (by simp)]; exact new2 _ _ _ _
  · have := new2 (w0.alloc (.cells #[x0, x1] 37)) y0 y1 37
    simpa using this
theorem Fr.next {w0 w w' : World} {x0 x1 y0 y1 : Value} (h : Fr w0 x0 x1 y0 y1 w) (hb : Below w.heap.size w w') : Fr w0 x0 x1 y0 y1 w' := by
  refine ⟨?_, ?_, h.bel.trans (hb.mono h.bel.size)⟩
  · rw [hb.block _ (lt_of_heap h.arg)]; exact h.arg
  · rw [hb.block _ (lt_of_heap h.res)]; exact h.res
theorem Fr.put {w0 w : World} {x0 x1 y0 y1 : Value} (h : Fr w0 x0 x1 y0 y1 w) (u0 u1 : Value) : Fr w0 x0 x1 u0 u1 ((w.setCell ⟨w0.heap.size + 1, 0, none⟩ u0).setCell ⟨w0.heap.size + 1, 1, none⟩ u1) := by
  refine ⟨?_, put2 h.res u0 u1, (h.bel.setCell (by simp) _).setCell (by simp) _⟩
  rw [Below.heap_setCell _ _ _ _ (by simp), Below.heap_setCell _ _ _ _ (by simp)]; exact h.arg

theorem RefAt.put2 {B k : Nat} {s : Value} {D : List Int} {w : World} (h : RefAt B s D w) (hk : k < B) (u0 u1 : Value) : RefAt B s D ((w.setCell ⟨k, 0, none⟩ u0).setCell ⟨k, 1, none⟩ u1) :=
  ⟨ownsRow_setCell_below (ownsRow_setCell_below h.own (a := ⟨k, 0, none⟩) hk u0) (a := ⟨k, 1, none⟩) hk u1, h.most, h.pos⟩

set_option maxHeartbeats 1000000 in
set_option maxRecDepth 100000 in
theorem store (s : Value) (D : List Int) (w : World) (B : Nat) (h : RefAt B s D w) (hB : B ≤ w.heap.size) (cnt a x : Int) :
    Calls Try.prog 41 #[.agg #[s, .int .i64 cnt], .int .i64 a, .int .u64 x] w fun e w' => ∃ s' cnt' D' bad, e = .returned (.tuple #[.agg #[s', .int .i64 cnt'], .int .i64 bad]) ∧ RefNext B s s' D' w w' := by
  obtain ⟨A, cap, rfl, hcap⟩ := own_any h.own
  have H := Lib.hid h
  have F := Lib.hid (Fr.start w (.slice A D.length cap) (.int .i64 cnt) (.slice none 0 0) (.int .i64 0))
  have hw2 := h.below F.out.bel
  clear h
  go_enter Try.func41, Try.ntmps41
  go_wp2_with fail
  refine (there _ D _ B hw2 cnt a).mono ?_
  rintro e w3 ⟨rfl, hb3⟩
  have F3 := F.out.next hb3
  have h3 := hw2.below hb3
  obtain ⟨a0, a1, a2, a3⟩ := cell2 F3.arg
  obtain ⟨r0, r1, r2, r3⟩ := cell2 F3.res
  have F3 := Lib.hid F3
  have h3 := Lib.hid h3
  clear F hb3 hw2
  cases hr : inR D a with
  | false =>
    go_wp2
    have F4 := F3.out.put (.slice A D.length cap) (.int .i64 cnt)
    have hz := cell2 F4.res
    refine bodyPost_ret (v := .tuple #[.agg #[.slice A D.length cap, .int .i64 cnt], .int .i64 1]) ?_ rfl ⟨_, cnt, D, 1, rfl, ?_, .inl rfl, F4.bel⟩
    · generalize ((w3.setCell ⟨w.heap.size + 1, 0, none⟩ (.slice A D.length cap)).setCell ⟨w.heap.size + 1, 1, none⟩ (.int .i64 cnt)) = wz at hz ⊢
      simp [results, Try.results41, go_sem, hz]
    · exact H.out.below F4.bel
  | true =>
    obtain ⟨h0, h1⟩ := inR_true.1 hr
    obtain ⟨i, rfl⟩ := Int.eq_ofNat_of_zero_le h0
    go_wp2_with fail
    refine (put _ D _ B h3.out cnt i (by omega) x).mono ?_
    rintro e w5 ⟨s', cnt', rfl, h5, hb5⟩
    obtain ⟨A', cap', hs', hcap'⟩ := own_any h5.own
    rw [List.length_set] at hs'
    subst hs'
    have F5 := F3.out.next hb5
    obtain ⟨r0, r1, r2, r3⟩ := cell2 F5.res
    have F5 := Lib.hid F5
    have h5 := Lib.hid h5
    have hs3 := F3.out.bel.size
    have hr3 := lt_of_heap F3.out.res
    clear hb5 a0 a1 a2 a3
    go_wp2
    have F6 := F5.out.put (.slice A' D.length cap') (.int .i64 cnt')
    have hz := cell2 F6.res
    refine bodyPost_ret (v := .tuple #[.agg #[.slice A' D.length cap', .int .i64 cnt'], .int .i64 0]) ?_ rfl ⟨_, cnt', D.set i x, 0, rfl, ?_, ?_, F6.bel⟩
    · generalize ((w5.setCell ⟨w.heap.size + 1, 0, none⟩ (.slice A' D.length cap')).setCell ⟨w.heap.size + 1, 1, none⟩ (.int .i64 cnt')) = wz at hz ⊢
      simp [results, Try.results41, go_sem, hz]
    · have q := h5.out.put2 (k := w.heap.size + 1) (by omega) (.slice A' D.length cap') (.int .i64 cnt')
      exact q.lower (by omega)
    · exact .inr (fun k hk => by have := h5.out.gbase hk; omega)
end Go.Proofs.Ytllibgjajlgnbaa.Ref
