/- The reference's cells, exactly: values, cells, and how often they were asked. Laid by genrefx.py. -/
import Derived.Test.YtllibgjajlgnbaaRefCas
import Derived.Test.YtllibgjajlgnbaaRefLoad
import Derived.Test.YtllibgjajlgnbaaRefGrow
namespace Go.Proofs.Ytllibgjajlgnbaa.RefX
open Go Go.RowKit Go.Proofs.Ytllibgjajlgnbaa.Only Go.Proofs.Ytllibgjajlgnbaa.Mem Go.Proofs.Ytllibgjajlgnbaa.New Go.Proofs.Ytllibgjajlgnbaa.Ref
set_option linter.unusedVariables false
set_option linter.unusedSimpArgs false

/-- How often they were asked behind a call. -/
def cntN (D : List Int) (a cnt : Int) : Int := if inR D a then wrap64 (cnt + 1) else cnt

def Loaded (B : Nat) (s : Value) (D : List Int) (cnt a : Int) (w : World) (e : Ending) (w' : World) : Prop :=
  ∃ s', e = .returned (.tuple #[.agg #[s', .int .i64 (cntN D a cnt)], .int .u64 (rdAt D a), .int .i64 (errAt D a)]) ∧ RefNext B s s' D w w'
def Stored (B : Nat) (s : Value) (D : List Int) (cnt a x : Int) (w : World) (e : Ending) (w' : World) : Prop :=
  ∃ s', e = .returned (.tuple #[.agg #[s', .int .i64 (cntN D a cnt)], .int .i64 (errAt D a)]) ∧ RefNext B s s' (setAt D a x) w w'
def Cased (B : Nat) (s : Value) (D : List Int) (cnt a o x : Int) (w : World) (e : Ending) (w' : World) : Prop :=
  ∃ s', e = .returned (.tuple #[.agg #[s', .int .i64 (cntN D a cnt)], .int .u64 (rdAt D a), .bool (casB D a o)]) ∧ RefNext B s s' (casAt D a o x) w w'
def Grew (B : Nat) (s : Value) (D : List Int) (cnt : Int) (N : Nat) (w : World) (e : Ending) (w' : World) : Prop :=
  ∃ s', e = .returned (.tuple #[.agg #[s', .int .i64 cnt], .int .i64 D.length, .int .i64 0]) ∧ RefNext B s s' (D ++ List.replicate N 0) w w'
theorem set_same (D : List Int) (i : Nat) : D.set i (D.getD i 0) = D := by
  by_cases h : i < D.length
  · have e : D.getD i 0 = D[i] := by simp [List.getD, h]
    rw [e]; exact List.set_getElem_self h
  · exact List.set_eq_of_length_le (by omega)

set_option maxHeartbeats 1000000 in
set_option maxRecDepth 100000 in
theorem put (s : Value) (D : List Int) (w : World) (B : Nat) (h : RefAt B s D w) (cnt : Int) (a : Nat) (ha : a < D.length) (x : Int) :
    Calls Try.prog 52 #[.agg #[s, .int .i64 cnt], .int .i64 a, .int .u64 x] w fun e w' => ∃ s', e = .returned (.agg #[s', .int .i64 (wrap64 (cnt + 1))]) ∧ RefAt w.heap.size s' (D.set a x) w' ∧ Below w.heap.size w w' := by
  obtain ⟨i0, hi, hzz⟩ := Option.map_eq_some_iff.1 info_u64
  simp only [Prod.mk.injEq] at hzz
  obtain ⟨hz0, hz1, hz2⟩ := hzz
  obtain ⟨g, cap, hv, hB, hc, hm, hg, hcell, hf⟩ := own_shape h.own (by omega)
  subst hv
  have hb3 : Below w.heap.size w (((w.alloc (.cells #[.slice (some ⟨g, 0, none⟩) D.length cap, .int .i64 cnt] 37)).alloc (.cells #[.slice none 0 0, .int .i64 0] 37)).alloc (.cells #[] 26)) :=
    (((Below.refl _ _).alloc (Nat.le_refl _) _).alloc (by simp) _).alloc (by simp; omega) _
  have hown := newOwn ((w.alloc (.cells #[.slice (some ⟨g, 0, none⟩) D.length cap, .int .i64 cnt] 37)).alloc (.cells #[.slice none 0 0, .int .i64 0] 37))
  have hnews : ∀ j u, (D.map (Value.int .u64))[j]? = some u → (((w.alloc (.cells #[.slice (some ⟨g, 0, none⟩) D.length cap, .int .i64 cnt] 37)).alloc (.cells #[.slice none 0 0, .int .i64 0] 37)).alloc (.cells #[] 26)).cell? ((⟨g, 0, none⟩ : Addr).add j) = some u := by
    intro j u hj
    have h1 := h.own.cells (g := g) rfl j u hj
    rw [hb3.cell (by simp [Addr.add]; split <;> simpa using hg)]
    exact h1
  have hmost := h.most
  have hx : a < (D.map (Value.int .u64)).length := by simpa using ha
  have hown := Lib.hid hown
  have hnews := Lib.hid hnews
  have hb3 := Lib.hid hb3
  clear hcell hf h
  simp at hown
  go_enter Try.func52, Try.ntmps52
  go_wp2_with (at_builtin; refine wpList_append_own_at _ rfl _ _ 22 rfl (w.heap.size + 1 + 1) 26 i0 (.int .u64 0) 1 8 Try.underlying22 hi hz0 hz1 hz2 rfl (by decide) _ _ _ rfl hown.out ⟨g, 0, none⟩ D.length cap (D.map (Value.int .u64)) rfl (by simp) hnews.out (u64_one D) (by simp [maxLen]; omega) (by omega) (by simp) ?_)
  intro v' w4 hown4 hg4 _ _
  have hb4 : Below w.heap.size w w4 := hb3.out.grown hg4 (by simp; omega) (by intro k hk; simp [Value.ownBlock] at hk; omega)
  have hown4 := Lib.hid hown4
  have k0 : w4.heap[w.heap.size]? = some (.cells #[.slice (some ⟨g, 0, none⟩) D.length cap, .int .i64 cnt] 37 (0, 0)) := by
    rw [hg4.block _ (by simp; omega) (by simp [Value.ownBlock]; omega), heap_alloc_old _ _ (by simp; omega), heap_alloc_old _ _ (by simp), heap_alloc_new]
  have k1 : w4.heap[w.heap.size + 1]? = some (.cells #[.slice none 0 0, .int .i64 0] 37 (0, 0)) := by
    have hn := heap_alloc_new (w.alloc (.cells #[.slice (some ⟨g, 0, none⟩) D.length cap, .int .i64 cnt] 37)) (.cells #[.slice none 0 0, .int .i64 0] 37)
    rw [hg4.block _ (by simp) (by simp [Value.ownBlock]), heap_alloc_old _ _ (by simp)]
    simpa using hn
  obtain ⟨g', cap', hv', hB', hc', hm', hg', hcell', hf'⟩ := own_shape hown4.out (by omega)
  subst hv'
  have e1 := hcell' a ha
  have e2 := hf' a
  have n0 : g' ≠ w.heap.size := by omega
  have n1 : g' ≠ w.heap.size + 1 := by omega
  have hW5 := Lib.hid ((hb4.setCell (p := ⟨g', a, none⟩) (by simp; omega) (.int .u64 x)))
  have k05 : (w4.setCell ⟨g', a, none⟩ (.int .u64 x)).heap[w.heap.size]? = some (.cells #[.slice (some ⟨g, 0, none⟩) D.length cap, .int .i64 cnt] 37 (0, 0)) := by
    rw [Below.heap_setCell _ _ _ _ (fun e => n0 e.symm)]; exact k0
  have k15 : (w4.setCell ⟨g', a, none⟩ (.int .u64 x)).heap[w.heap.size + 1]? = some (.cells #[.slice none 0 0, .int .i64 0] 37 (0, 0)) := by
    rw [Below.heap_setCell _ _ _ _ (fun e => n1 e.symm)]; exact k1
  have hown5 := Lib.hid (own_set hown4.out a (by omega) (.int .u64 x))
  rw [← List.map_set] at hown5
  have d0 : (w4.setCell ⟨g', a, none⟩ (.int .u64 x)).cell? ⟨w.heap.size, 0, none⟩ = some (.slice (some ⟨g, 0, none⟩) D.length cap) := by simp [World.cell?, k05]
  have d1 : (w4.setCell ⟨g', a, none⟩ (.int .u64 x)).cell? ⟨w.heap.size, 1, none⟩ = some (.int .i64 cnt) := by simp [World.cell?, k05]
  have d2 : (w4.setCell ⟨g', a, none⟩ (.int .u64 x)).cell? ⟨w.heap.size + 1, 0, none⟩ = some (.slice none 0 0) := by simp [World.cell?, k15]
  have d3 : (w4.setCell ⟨g', a, none⟩ (.int .u64 x)).cell? ⟨w.heap.size + 1, 1, none⟩ = some (.int .i64 0) := by simp [World.cell?, k15]
  have d4 : (w4.setCell ⟨g', a, none⟩ (.int .u64 x)).frozen? ⟨w.heap.size + 1, 0, none⟩ = false := by simp [World.frozen?, k15]
  have d5 : (w4.setCell ⟨g', a, none⟩ (.int .u64 x)).frozen? ⟨w.heap.size + 1, 1, none⟩ = false := by simp [World.frozen?, k15]
  clear k0 k1 hcell' hf' hg4 hb4
  go_wp2
  refine bodyPost_ret (v := .agg #[.slice (some ⟨g', 0, none⟩) D.length cap', .int .i64 (wrap64 (cnt + 1))]) ?_ rfl ⟨_, rfl, ?_, ?_⟩
  · have hz := cell2 (put2 k15 (.slice (some ⟨g', 0, none⟩) D.length cap') (.int .i64 (wrap64 (cnt + 1))))
    generalize (((w4.setCell ⟨g', a, none⟩ (.int .u64 x)).setCell ⟨w.heap.size + 1, 0, none⟩ (.slice (some ⟨g', 0, none⟩) D.length cap')).setCell ⟨w.heap.size + 1, 1, none⟩ (.int .i64 (wrap64 (cnt + 1)))) = wz at hz ⊢
    simp [results, Try.results52, go_sem, hz]
  · refine ⟨?_, by simp; omega, by simp; omega⟩
    have h1 := ownsRow_setCell_below (base := w.heap.size + 1 + 1) hown5.out (a := ⟨w.heap.size + 1, 0, none⟩) (by simp) (.slice (some ⟨g', 0, none⟩) D.length cap')
    have h2 := ownsRow_setCell_below (base := w.heap.size + 1 + 1) h1 (a := ⟨w.heap.size + 1, 1, none⟩) (by simp) (.int .i64 (wrap64 (cnt + 1)))
    rw [List.length_set]
    obtain ⟨q1, q2⟩ := h2
    refine ⟨by simp, ?_⟩
    rcases q2 with q2 | ⟨z1, z2, z3, z4, z5, z6⟩
    · exact .inl q2
    · exact .inr ⟨z1, z2, z3, z4, by omega, z6⟩
  · exact (hW5.out.setCell (p := ⟨w.heap.size + 1, 0, none⟩) (by simp) _).setCell (p := ⟨w.heap.size + 1, 1, none⟩) (by simp) _

set_option maxHeartbeats 1000000 in
set_option maxRecDepth 100000 in
theorem store (s : Value) (D : List Int) (w : World) (B : Nat) (h : RefAt B s D w) (hB : B ≤ w.heap.size) (cnt a x : Int) :
    Calls Try.prog 41 #[.agg #[s, .int .i64 cnt], .int .i64 a, .int .u64 x] w (Stored B s D cnt a x w) := by
  obtain ⟨A, cap, rfl, hcap⟩ := own_any h.own
  have H := Lib.hid h
  have F := Lib.hid (Fr.start w (.slice A D.length cap) (.int .i64 cnt) (.slice none 0 0) (.int .i64 0))
  have hw2 := h.below F.out.bel
  clear h
  go_enter Try.func41, Try.ntmps41
  go_wp2_with fail
  refine (there _ D _ B hw2 cnt a).mono ?_
  rintro e w3 ⟨rfl, hb3⟩
  have F3 := F.out.next hb3
  have h3 := hw2.below hb3
  obtain ⟨a0, a1, a2, a3⟩ := cell2 F3.arg
  obtain ⟨r0, r1, r2, r3⟩ := cell2 F3.res
  have F3 := Lib.hid F3
  have h3 := Lib.hid h3
  clear F hb3 hw2
  cases hr : inR D a with
  | false =>
    go_wp2
    have F4 := F3.out.put (.slice A D.length cap) (.int .i64 cnt)
    have hz := cell2 F4.res
    refine bodyPost_ret (v := .tuple #[.agg #[.slice A D.length cap, .int .i64 cnt], .int .i64 1]) ?_ rfl ⟨_, by simp [cntN, errAt, hr], ?_, .inl rfl, F4.bel⟩
    · generalize ((w3.setCell ⟨w.heap.size + 1, 0, none⟩ (.slice A D.length cap)).setCell ⟨w.heap.size + 1, 1, none⟩ (.int .i64 cnt)) = wz at hz ⊢
      simp [results, Try.results41, go_sem, hz]
    · have q : setAt D a x = D := by unfold setAt; rw [hr]; rfl
      rw [q]; exact H.out.below F4.bel
  | true =>
    obtain ⟨h0, h1⟩ := inR_true.1 hr
    obtain ⟨i, rfl⟩ := Int.eq_ofNat_of_zero_le h0
    go_wp2_with fail
    refine (put _ D _ B h3.out cnt i (by omega) x).mono ?_
    rintro e w5 ⟨s', rfl, h5, hb5⟩
    generalize hcn : wrap64 (cnt + 1) = cnt' at *
    obtain ⟨A', cap', hs', hcap'⟩ := own_any h5.own
    rw [List.length_set] at hs'
    subst hs'
    have F5 := F3.out.next hb5
    obtain ⟨r0, r1, r2, r3⟩ := cell2 F5.res
    have F5 := Lib.hid F5
    have h5 := Lib.hid h5
    have hs3 := F3.out.bel.size
    have hr3 := lt_of_heap F3.out.res
    clear hb5 a0 a1 a2 a3
    go_wp2
    have F6 := F5.out.put (.slice A' D.length cap') (.int .i64 cnt')
    have hz := cell2 F6.res
    refine bodyPost_ret (v := .tuple #[.agg #[.slice A' D.length cap', .int .i64 cnt'], .int .i64 0]) ?_ rfl ⟨.slice A' D.length cap', by simp [cntN, errAt, hr, hcn], ?_, ?_, F6.bel⟩
    · generalize ((w5.setCell ⟨w.heap.size + 1, 0, none⟩ (.slice A' D.length cap')).setCell ⟨w.heap.size + 1, 1, none⟩ (.int .i64 cnt')) = wz at hz ⊢
      simp [results, Try.results41, go_sem, hz]
    · have q := h5.out.put2 (k := w.heap.size + 1) (by omega) (.slice A' D.length cap') (.int .i64 cnt')
      have q2 : setAt D i x = D.set i x := by unfold setAt; rw [if_pos hr]; rfl
      rw [q2]; exact q.lower (by omega)
    · exact .inr (fun k hk => by have := h5.out.gbase hk; omega)

set_option linter.unusedVariables false
set_option linter.unusedSimpArgs false
set_option maxHeartbeats 8000000 in
set_option maxRecDepth 100000 in
theorem cas (s : Value) (D : List Int) (w : World) (B : Nat) (h : RefAt B s D w) (hB : B ≤ w.heap.size) (cnt a o x : Int) :
    Calls Try.prog 42 #[.agg #[s, .int .i64 cnt], .int .i64 a, .int .u64 o, .int .u64 x] w (Cased B s D cnt a o x w) := by
  obtain ⟨A, cap, rfl, hcap⟩ := own_any h.own
  have H := Lib.hid h
  have F := Lib.hid (Fr.start w (.slice A D.length cap) (.int .i64 cnt) (.slice none 0 0) (.int .i64 0))
  have hw2 := h.below F.out.bel
  clear h
  go_enter Try.func42, Try.ntmps42
  go_wp2_with fail
  refine (there _ D _ B hw2 cnt a).mono ?_
  rintro e w3 ⟨rfl, hb3⟩
  have F3 := F.out.next hb3
  have h3 := hw2.below hb3
  obtain ⟨a0, a1, a2, a3⟩ := cell2 F3.arg
  obtain ⟨r0, r1, r2, r3⟩ := cell2 F3.res
  have F3 := Lib.hid F3
  have h3 := Lib.hid h3
  clear F hb3 hw2
  cases hr : inR D a with
  | false =>
    go_wp2
    have F4 := F3.out.put (.slice A D.length cap) (.int .i64 cnt)
    have hz := cell2 F4.res
    refine bodyPost_ret (v := .tuple #[.agg #[.slice A D.length cap, .int .i64 cnt], .int .u64 0, .bool false]) ?_ rfl ⟨_, by simp [cntN, rdAt, casB, hr], ?_, .inl rfl, F4.bel⟩
    · generalize ((w3.setCell ⟨w.heap.size + 1, 0, none⟩ (.slice A D.length cap)).setCell ⟨w.heap.size + 1, 1, none⟩ (.int .i64 cnt)) = wz at hz ⊢
      simp [results, Try.results42, go_sem, hz]
    · have q : casAt D a o x = D := by unfold casAt casB; rw [hr]; rfl
      rw [q]; exact H.out.below F4.bel
  | true =>
    obtain ⟨h0, h1⟩ := inR_true.1 hr
    obtain ⟨i, rfl⟩ := Int.eq_ofNat_of_zero_le h0
    obtain ⟨g, cap0, hv, hBg, hc0, hm0, hg0, hcell, hf0⟩ := own_shape h3.out.own (by omega)
    obtain ⟨rfl, rfl⟩ : A = some ⟨g, 0, none⟩ ∧ cap = cap0 := by cases hv; exact ⟨rfl, rfl⟩
    have hci := hcell i (by omega)
    rw [show (D.map (Value.int .u64)).getD i (.bool false) = .int .u64 (D.getD i 0) by simp [List.getD, show i < D.length by omega]] at hci
    clear hcell hf0 hv
    have er : rdAt D i = D.getD i 0 := by unfold rdAt; rw [if_pos hr]; rfl
    have es := set_same D i
    rw [← er] at hci es
    have er := Lib.hid er
    generalize hy : rdAt D i = y at hci es
    cases hq : (y != o) with
    | true =>
      go_wp2_with fail
      refine (put _ D _ B h3.out cnt i (by omega) y).mono ?_
      rintro e w5 ⟨s', rfl, h5, hb5⟩
      generalize hcn : wrap64 (cnt + 1) = cnt' at *
      obtain ⟨A', cap', hs', hcap'⟩ := own_any h5.own
      rw [List.length_set] at hs'
      subst hs'
      have F5 := F3.out.next hb5
      obtain ⟨r0, r1, r2, r3⟩ := cell2 F5.res
      have F5 := Lib.hid F5
      have h5 := Lib.hid h5
      have hs3 := F3.out.bel.size
      have hr3 := lt_of_heap F3.out.res
      clear hb5 a0 a1 a2 a3
      go_wp2
      have F6 := F5.out.put (.slice A' D.length cap') (.int .i64 cnt')
      have hz := cell2 F6.res
      refine bodyPost_ret (v := .tuple #[.agg #[.slice A' D.length cap', .int .i64 cnt'], .int .u64 y, .bool false]) ?_ rfl ⟨.slice A' D.length cap', by simp [cntN, casB, hr, hcn, hy, beq_false_of_ne (by simpa using hq)], ?_, ?_, F6.bel⟩
      · generalize ((w5.setCell ⟨w.heap.size + 1, 0, none⟩ (.slice A' D.length cap')).setCell ⟨w.heap.size + 1, 1, none⟩ (.int .i64 cnt')) = wz at hz ⊢
        simp [results, Try.results42, go_sem, hz]
      · have q := h5.out.put2 (k := w.heap.size + 1) (by omega) (.slice A' D.length cap') (.int .i64 cnt')
        have q2 : casAt D i o x = D.set i y := by
          have : (y == o) = false := beq_false_of_ne (by simpa using hq)
          unfold casAt casB; rw [hy, this, es]; simp
        rw [q2]; exact q.lower (by omega)
      · exact .inr (fun k hk => by have := h5.out.gbase hk; omega)
    | false =>
      go_wp2_with fail
      refine (put _ D _ B h3.out cnt i (by omega) x).mono ?_
      rintro e w5 ⟨s', rfl, h5, hb5⟩
      generalize hcn : wrap64 (cnt + 1) = cnt' at *
      obtain ⟨A', cap', hs', hcap'⟩ := own_any h5.own
      rw [List.length_set] at hs'
      subst hs'
      have F5 := F3.out.next hb5
      obtain ⟨r0, r1, r2, r3⟩ := cell2 F5.res
      have F5 := Lib.hid F5
      have h5 := Lib.hid h5
      have hs3 := F3.out.bel.size
      have hr3 := lt_of_heap F3.out.res
      clear hb5 a0 a1 a2 a3
      go_wp2
      have F6 := F5.out.put (.slice A' D.length cap') (.int .i64 cnt')
      have hz := cell2 F6.res
      refine bodyPost_ret (v := .tuple #[.agg #[.slice A' D.length cap', .int .i64 cnt'], .int .u64 y, .bool true]) ?_ rfl ⟨.slice A' D.length cap', by simp [cntN, casB, hr, hcn, hy, show y = o by simpa using hq], ?_, ?_, F6.bel⟩
      · generalize ((w5.setCell ⟨w.heap.size + 1, 0, none⟩ (.slice A' D.length cap')).setCell ⟨w.heap.size + 1, 1, none⟩ (.int .i64 cnt')) = wz at hz ⊢
        simp [results, Try.results42, go_sem, hz]
      · have q := h5.out.put2 (k := w.heap.size + 1) (by omega) (.slice A' D.length cap') (.int .i64 cnt')
        have q2 : casAt D i o x = D.set i x := by
          have : (y == o) = true := by simpa using hq
          unfold casAt casB setAt; rw [hy, this, hr]; simp
        rw [q2]; exact q.lower (by omega)
      · exact .inr (fun k hk => by have := h5.out.gbase hk; omega)

set_option maxHeartbeats 8000000 in
set_option maxRecDepth 100000 in
theorem load (s : Value) (D : List Int) (w : World) (B : Nat) (h : RefAt B s D w) (hB : B ≤ w.heap.size) (cnt a : Int) :
    Calls Try.prog 40 #[.agg #[s, .int .i64 cnt], .int .i64 a] w (Loaded B s D cnt a w) := by
  obtain ⟨A, cap, rfl, hcap⟩ := own_any h.own
  have H := Lib.hid h
  have F := Lib.hid (Fr.start w (.slice A D.length cap) (.int .i64 cnt) (.slice none 0 0) (.int .i64 0))
  have hw2 := h.below F.out.bel
  clear h
  go_enter Try.func40, Try.ntmps40
  go_wp2_with fail
  refine (there _ D _ B hw2 cnt a).mono ?_
  rintro e w3 ⟨rfl, hb3⟩
  have F3 := F.out.next hb3
  have h3 := hw2.below hb3
  obtain ⟨a0, a1, a2, a3⟩ := cell2 F3.arg
  obtain ⟨r0, r1, r2, r3⟩ := cell2 F3.res
  have F3 := Lib.hid F3
  have h3 := Lib.hid h3
  clear F hb3 hw2
  cases hr : inR D a with
  | false =>
    go_wp2
    have F4 := F3.out.put (.slice A D.length cap) (.int .i64 cnt)
    have hz := cell2 F4.res
    refine bodyPost_ret (v := .tuple #[.agg #[.slice A D.length cap, .int .i64 cnt], .int .u64 0, .int .i64 1]) ?_ rfl ⟨_, by simp [cntN, rdAt, errAt, hr], ?_, .inl rfl, F4.bel⟩
    · generalize ((w3.setCell ⟨w.heap.size + 1, 0, none⟩ (.slice A D.length cap)).setCell ⟨w.heap.size + 1, 1, none⟩ (.int .i64 cnt)) = wz at hz ⊢
      simp [results, Try.results40, go_sem, hz]
    · exact H.out.below F4.bel
  | true =>
    obtain ⟨h0, h1⟩ := inR_true.1 hr
    obtain ⟨i, rfl⟩ := Int.eq_ofNat_of_zero_le h0
    obtain ⟨g, cap0, hv, hBg, hc0, hm0, hg0, hcell, hf0⟩ := own_shape h3.out.own (by omega)
    obtain ⟨rfl, rfl⟩ : A = some ⟨g, 0, none⟩ ∧ cap = cap0 := by cases hv; exact ⟨rfl, rfl⟩
    have hci := hcell i (by omega)
    rw [show (D.map (Value.int .u64)).getD i (.bool false) = .int .u64 (D.getD i 0) by simp [List.getD, show i < D.length by omega]] at hci
    clear hcell hf0 hv
    obtain ⟨g2, cap2, hv2, _, _, _, hgw, _, _⟩ := own_shape H.out.own (by omega)
    obtain rfl : g = g2 := by cases hv2; rfl
    have gn0 : g ≠ w.heap.size := by omega
    have gn1 : g ≠ w.heap.size + 1 := by omega
    have gn2 : ¬ w.heap.size + 1 = g := by omega
    have gn3 : ¬ w.heap.size = g := by omega
    clear hv2
    have er : rdAt D i = D.getD i 0 := by unfold rdAt; rw [if_pos hr]; rfl
    have es := set_same D i
    rw [← er] at hci es
    have er := Lib.hid er
    generalize hy : rdAt D i = y at hci es
    go_wp2_with fail
    go_region_held3 (fun w' => w'.cell? ⟨w.heap.size, 0, none⟩ = some (.slice (some ⟨g, 0, none⟩) D.length cap) ∧ w'.cell? ⟨w.heap.size, 1, none⟩ = some (.int .i64 cnt) ∧ w'.cell? ⟨g, i, none⟩ = some (.int .u64 y))
      (first | go_keep | exact S5)
      (first | (go_at_call 52; refine (put _ D _ B (RefAt.drew h3.out) cnt i (by omega) y).mono ?_; rintro e w5 ⟨s', rfl, h5, hb5⟩
                generalize hcn : wrap64 (cnt + 1) = cnt' at *
                obtain ⟨A', cap', hs', hcap'⟩ := own_any h5.own
                rw [List.length_set] at hs'
                subst hs'
                have F5 := F3.out.drew.next hb5
                obtain ⟨r0, r1, r2, r3⟩ := cell2 F5.res
                obtain ⟨b0, b1, b2, b3⟩ := cell2 F5.arg
                have S5 := And.intro b0 (And.intro b1 ((hb5.cell (p := ⟨g, i, none⟩) hg0).trans hci))
                have F5 := Lib.hid F5
                have h5 := Lib.hid h5))
    have hs3 := F3.out.bel.size
    have hr3 := lt_of_heap F3.out.res
    go_wp2
    have F6 := F5.out.put (.slice A' D.length cap') (.int .i64 cnt')
    have hz := cell2 F6.res
    refine bodyPost_ret (v := .tuple #[.agg #[.slice A' D.length cap', .int .i64 cnt'], .int .u64 y, .int .i64 0]) ?_ rfl ⟨.slice A' D.length cap', by simp [cntN, errAt, hr, hcn, hy], ?_, ?_, F6.bel⟩
    · generalize ((w5.setCell ⟨w.heap.size + 1, 0, none⟩ (.slice A' D.length cap')).setCell ⟨w.heap.size + 1, 1, none⟩ (.int .i64 cnt')) = wz at hz ⊢
      simp [results, Try.results40, go_sem, hz]
    · have q := h5.out.put2 (k := w.heap.size + 1) (by simp; omega) (.slice A' D.length cap') (.int .i64 cnt')
      rw [es] at q
      exact q.lower (by simp; omega)
    · exact .inr (fun k hk => by have := h5.out.gbase hk; simp at this; omega)

set_option maxHeartbeats 4000000 in
set_option maxRecDepth 100000 in
theorem grow (s : Value) (D : List Int) (w : World) (B : Nat) (h : RefAt B s D w) (hB : B ≤ w.heap.size) (cnt : Int) (N : Nat) (hN : D.length + N ≤ 65536) :
    Calls Try.prog 45 #[.agg #[s, .int .i64 cnt], .int .i64 N] w (Grew B s D cnt N w) := by
  obtain ⟨i0, hi, hzz⟩ := Option.map_eq_some_iff.1 info_u64
  simp only [Prod.mk.injEq] at hzz
  obtain ⟨hz0, hz1, hz2⟩ := hzz
  obtain ⟨g, cap, hv, hBg, hc0, hm0, hgw, hcell, hf0⟩ := own_shape h.own h.pos
  subst hv
  have hpos := h.pos
  have hmost := h.most
  have H := Lib.hid h
  have F := Lib.hid (Fr.start w (.slice (some ⟨g, 0, none⟩) D.length cap) (.int .i64 cnt) (.slice none 0 0) (.int .i64 0))
  clear hcell hf0 h
  have b0 : decide ((N : Int) < 0) = false := by simp
  have b1 : decide (65536 < (N : Int)) = false := by simp; omega
  have b2 : decide (65536 < (D.length : Int) + N) = false := by simp; omega
  have hown := newOwn ((w.alloc (.cells #[.slice (some ⟨g, 0, none⟩) D.length cap, .int .i64 cnt] 37)).alloc (.cells #[.slice none 0 0, .int .i64 0] 37))
  have hb3 := F.out.bel.alloc (F.out.bel.size) (.cells #[] 26)
  have hnews : ∀ j u, (D.map (Value.int .u64))[j]? = some u → (((w.alloc (.cells #[.slice (some ⟨g, 0, none⟩) D.length cap, .int .i64 cnt] 37)).alloc (.cells #[.slice none 0 0, .int .i64 0] 37)).alloc (.cells #[] 26)).cell? ((⟨g, 0, none⟩ : Addr).add j) = some u := by
    intro j u hj
    have h1 := H.out.own.cells (g := g) rfl j u hj
    rw [hb3.cell (by simp [Addr.add]; split <;> simpa using hgw)]
    exact h1
  have F2 := F.out.grown (World.grownBy_alloc _ (.cells #[] 26) none) (by simp)
  have hown := Lib.hid hown
  have hnews := Lib.hid hnews
  have F2 := Lib.hid F2
  clear hb3
  simp at hown
  go_enter Try.func45, Try.ntmps45
  go_wp2_with (at_builtin; refine wpList_append_own_at _ rfl _ _ 22 rfl (w.heap.size + 1 + 1) 26 i0 (.int .u64 0) 1 8 Try.underlying22 hi hz0 hz1 hz2 rfl (by decide) _ _ _ rfl hown.out ⟨g, 0, none⟩ D.length cap (D.map (Value.int .u64)) rfl (by simp) hnews.out (u64_one D) (by simp [maxLen]; omega) (by omega) (by simp) ?_)
  intro v' w4 hown4 hg4 _ _
  have F4 := F2.out.grown hg4 (by intro k hk; simp [Value.ownBlock] at hk; omega)
  have hown4 := Lib.hid hown4
  have F4 := Lib.hid F4
  clear hg4 hown hnews F2 F
  go_wp2_with fail
  go_loopw [7, 8] (fun c i wr => ∃ k : Nat, k ≤ N ∧ i = .int .i64 k ∧ Hid (wr.ownsRow (w.heap.size + 1 + 1) 26 1 c (D.length + k) ((D ++ List.replicate k 0).map (Value.int .u64))) ∧ Hid (Fr w (.slice (some ⟨g, 0, none⟩) D.length cap) (.int .i64 cnt) (.slice none 0 0) (.int .i64 0) wr))
    (fun _ i _ => N - (intOf i).toNat)
  case atStart => exact ⟨0, by omega, rfl, by simpa using hown4, F4⟩
  case round =>
    obtain ⟨k, hk, rfl, hc, hF⟩ := hrel
    by_cases hlt : k < N
    · have b3 : decide ((k : Int) < N) = true := by simp; omega
      have hsz := hF.out.bel.size
      have hsz2 := lt_of_heap hF.out.res
      go_wp2_with (at_builtin; refine wpList_append_own_at _ rfl _ _ 22 rfl (w.heap.size + 1 + 1) 26 i0 (.int .u64 0) 1 8 Try.underlying22 hi hz0 hz1 hz2 rfl (by decide) _ _ _ rfl (hc.out.kept (row := none) (World.grownBy_alloc _ _ none) ?k1) ⟨_, 0, none⟩ 1 1 [.int .u64 0] rfl rfl (cell_one_new _ _ _) ?k2 ?k3 ?k4 ?k5 ?_)
      case k1 => exact Classical.em _
      case k2 => intro u hu; simp at hu; subst hu; rfl
      case k3 => simp [maxLen]; omega
      case k4 => omega
      case k5 => simp; omega
      intro v2 w5 h5 hg5 _ _
      have h5 : w5.ownsRow (w.heap.size + 1 + 1) 26 1 v2 (D.length + (k + 1)) ((D ++ List.replicate (k + 1) 0).map (Value.int .u64)) := by
        have e : (D ++ List.replicate (k + 1) 0).map (Value.int .u64) = List.map (Value.int IntKind.u64) D ++ (List.replicate k (Value.int IntKind.u64 0) ++ [Value.int IntKind.u64 0]) := by simp [List.replicate_succ']
        rw [e, ← Nat.add_assoc]; exact h5
      have F5 := (hF.out.grown (World.grownBy_alloc wr (.cells #[.int .u64 0] 26) none) (by simp)).grown hg5 (by
        intro j hj
        rcases hc.out.2 with ⟨e, _⟩ | ⟨g7, _, _, e, hb7, _⟩
        · rw [e] at hj; cases hj
        · rw [e] at hj; cases hj; omega)
      have h5 := Lib.hid h5
      have F5 := Lib.hid F5
      clear hg5
      go_wp2
      go_roundw
      case rel => exact ⟨k + 1, by omega, by go_num, h5, F5⟩
      case measure => simp [intOf]; omega
    · have b3 : decide ((k : Int) < N) = false := by simp; omega
      obtain rfl : k = N := by omega
      obtain ⟨a0, a1, a2, a3⟩ := cell2 hF.out.arg
      obtain ⟨r0, r1, r2, r3⟩ := cell2 hF.out.res
      obtain ⟨A', cap', hs', hcap'⟩ := own_any hc.out
      subst hs'
      go_wp2_with fail
      go_region_held3 (fun w' => w'.cell? ⟨w.heap.size, 0, none⟩ = some (.slice (some ⟨g, 0, none⟩) D.length cap) ∧ w'.cell? ⟨w.heap.size, 1, none⟩ = some (.int .i64 cnt))
        (first | go_keep) (fail)
      go_wp2
      have F6 := (hF.out.put (.slice A' (D.length + k) cap') (.int .i64 cnt)).drew
      have hz := cell2 F6.res
      refine bodyPost_ret (v := .tuple #[.agg #[.slice A' (D.length + k) cap', .int .i64 cnt], .int .i64 D.length, .int .i64 0]) ?_ rfl ⟨_, rfl, ?_, ?_, F6.bel⟩
      · generalize ((wr.setCell ⟨w.heap.size + 1, 0, none⟩ (.slice A' (D.length + k) cap')).setCell ⟨w.heap.size + 1, 1, none⟩ (.int .i64 cnt)).drew = wz at hz ⊢
        simp [results, Try.results45, go_sem, hz]
      · have q : RefAt (w.heap.size + 1 + 1) (.slice A' (D.length + k) cap') (D ++ List.replicate k 0) wr := ⟨by simpa using hc.out, by simp; omega, by simp; omega⟩
        exact ((q.put2 (k := w.heap.size + 1) (by omega) _ _).drew).lower (by omega)
      · refine .inr (fun j hj => ?_)
        have q : RefAt (w.heap.size + 1 + 1) (.slice A' (D.length + k) cap') (D ++ List.replicate k 0) wr := ⟨by simpa using hc.out, by simp; omega, by simp; omega⟩
        have := q.gbase hj
        omega

end Go.Proofs.Ytllibgjajlgnbaa.RefX
