/- The reference's cells: Load. -/
import Derived.Test.YtllibgjajlgnbaaRef
import Derived.Deep.RegionHeld3
namespace Go.Proofs.Ytllibgjajlgnbaa.Ref
open Go Go.RowKit Go.Proofs.Ytllibgjajlgnbaa.Only Go.Proofs.Ytllibgjajlgnbaa.Mem Go.Proofs.Ytllibgjajlgnbaa.New
set_option linter.unusedVariables false
set_option linter.unusedSimpArgs false
theorem RefAt.drew {B : Nat} {s : Value} {D : List Int} {w : World} (h : RefAt B s D w) : RefAt B s D w.drew := ⟨h.own, h.most, h.pos⟩
theorem Fr.drew {w0 w : World} {x0 x1 y0 y1 : Value} (h : Fr w0 x0 x1 y0 y1 w) : Fr w0 x0 x1 y0 y1 w.drew := ⟨h.arg, h.res, h.bel.drew⟩

set_option maxHeartbeats 8000000 in
set_option maxRecDepth 100000 in
theorem load (s : Value) (D : List Int) (w : World) (B : Nat) (h : RefAt B s D w) (hB : B ≤ w.heap.size) (cnt a : Int) :
    Calls Try.prog 40 #[.agg #[s, .int .i64 cnt], .int .i64 a] w fun e w' => ∃ s' cnt' D' y bad, e = .returned (.tuple #[.agg #[s', .int .i64 cnt'], .int .u64 y, .int .i64 bad]) ∧ RefNext B s s' D' w w' := by
  obtain ⟨A, cap, rfl, hcap⟩ := own_any h.own
  have H := Lib.hid h
  have F := Lib.hid (Fr.start w (.slice A D.length cap) (.int .i64 cnt) (.slice none 0 0) (.int .i64 0))
  have hw2 := h.below F.out.bel
  clear h
  go_enter Try.func40, Try.ntmps40
  go_wp2_with fail
  refine (there _ D _ B hw2 cnt a).mono ?_
  rintro e w3 ⟨rfl, hb3⟩
  have F3 := F.out.next hb3
  have h3 := hw2.below hb3
  obtain ⟨a0, a1, a2, a3⟩ := cell2 F3.arg
  obtain ⟨r0, r1, r2, r3⟩ := cell2 F3.res
  have F3 := Lib.hid F3
  have h3 := Lib.hid h3
  clear F hb3 hw2
  cases hr : inR D a with
  | false =>
    go_wp2
    have F4 := F3.out.put (.slice A D.length cap) (.int .i64 cnt)
    have hz := cell2 F4.res
    refine bodyPost_ret (v := .tuple #[.agg #[.slice A D.length cap, .int .i64 cnt], .int .u64 0, .int .i64 1]) ?_ rfl ⟨_, cnt, D, 0, 1, rfl, ?_, .inl rfl, F4.bel⟩
    · generalize ((w3.setCell ⟨w.heap.size + 1, 0, none⟩ (.slice A D.length cap)).setCell ⟨w.heap.size + 1, 1, none⟩ (.int .i64 cnt)) = wz at hz ⊢
      simp [results, Try.results40, go_sem, hz]
    · exact H.out.below F4.bel
  | true =>
    obtain ⟨h0, h1⟩ := inR_true.1 hr
    obtain ⟨i, rfl⟩ := Int.eq_ofNat_of_zero_le h0
    obtain ⟨g, cap0, hv, hBg, hc0, hm0, hg0, hcell, hf0⟩ := own_shape h3.out.own (by omega)
    obtain ⟨rfl, rfl⟩ : A = some ⟨g, 0, none⟩ ∧ cap = cap0 := by cases hv; exact ⟨rfl, rfl⟩
    have hci := hcell i (by omega)
    rw [show (D.map (Value.int .u64)).getD i (.bool false) = .int .u64 (D.getD i 0) by simp [List.getD, show i < D.length by omega]] at hci
    clear hcell hf0 hv
    obtain ⟨g2, cap2, hv2, _, _, _, hgw, _, _⟩ := own_shape H.out.own (by omega)
    obtain rfl : g = g2 := by cases hv2; rfl
    have gn0 : g ≠ w.heap.size := by omega
    have gn1 : g ≠ w.heap.size + 1 := by omega
    have gn2 : ¬ w.heap.size + 1 = g := by omega
    have gn3 : ¬ w.heap.size = g := by omega
    clear hv2
    generalize D.getD i 0 = y at hci
    go_wp2_with fail
    go_region_held3 (fun w' => w'.cell? ⟨w.heap.size, 0, none⟩ = some (.slice (some ⟨g, 0, none⟩) D.length cap) ∧ w'.cell? ⟨w.heap.size, 1, none⟩ = some (.int .i64 cnt) ∧ w'.cell? ⟨g, i, none⟩ = some (.int .u64 y))
      (first | go_keep | exact S5)
      (first | (go_at_call 52; refine (put _ D _ B (RefAt.drew h3.out) cnt i (by omega) y).mono ?_; rintro e w5 ⟨s', cnt', rfl, h5, hb5⟩
                obtain ⟨A', cap', hs', hcap'⟩ := own_any h5.own
                rw [List.length_set] at hs'
                subst hs'
                have F5 := F3.out.drew.next hb5
                obtain ⟨r0, r1, r2, r3⟩ := cell2 F5.res
                obtain ⟨b0, b1, b2, b3⟩ := cell2 F5.arg
                have S5 := And.intro b0 (And.intro b1 ((hb5.cell (p := ⟨g, i, none⟩) hg0).trans hci))
                have F5 := Lib.hid F5
                have h5 := Lib.hid h5))
    have hs3 := F3.out.bel.size
    have hr3 := lt_of_heap F3.out.res
    go_wp2
    have F6 := F5.out.put (.slice A' D.length cap') (.int .i64 cnt')
    have hz := cell2 F6.res
    refine bodyPost_ret (v := .tuple #[.agg #[.slice A' D.length cap', .int .i64 cnt'], .int .u64 y, .int .i64 0]) ?_ rfl ⟨_, cnt', D.set i y, y, 0, rfl, ?_, ?_, F6.bel⟩
    · generalize ((w5.setCell ⟨w.heap.size + 1, 0, none⟩ (.slice A' D.length cap')).setCell ⟨w.heap.size + 1, 1, none⟩ (.int .i64 cnt')) = wz at hz ⊢
      simp [results, Try.results40, go_sem, hz]
    · have q := h5.out.put2 (k := w.heap.size + 1) (by simp; omega) (.slice A' D.length cap') (.int .i64 cnt')
      exact q.lower (by simp; omega)
    · exact .inr (fun k hk => by have := h5.out.gbase hk; simp at this; omega)

set_option maxHeartbeats 8000000 in
set_option maxRecDepth 100000 in
theorem add (s : Value) (D : List Int) (w : World) (B : Nat) (h : RefAt B s D w) (hB : B ≤ w.heap.size) (cnt a x : Int) :
    Calls Try.prog 43 #[.agg #[s, .int .i64 cnt], .int .i64 a, .int .u64 x] w fun e w' => ∃ s' cnt' D' y bad, e = .returned (.tuple #[.agg #[s', .int .i64 cnt'], .int .u64 y, .int .i64 bad]) ∧ RefNext B s s' D' w w' := by
  obtain ⟨A, cap, rfl, hcap⟩ := own_any h.own
  have H := Lib.hid h
  have F := Lib.hid (Fr.start w (.slice A D.length cap) (.int .i64 cnt) (.slice none 0 0) (.int .i64 0))
  have hw2 := h.below F.out.bel
  clear h
  go_enter Try.func43, Try.ntmps43
  go_wp2_with fail
  refine (there _ D _ B hw2 cnt a).mono ?_
  rintro e w3 ⟨rfl, hb3⟩
  have F3 := F.out.next hb3
  have h3 := hw2.below hb3
  obtain ⟨a0, a1, a2, a3⟩ := cell2 F3.arg
  obtain ⟨r0, r1, r2, r3⟩ := cell2 F3.res
  have F3 := Lib.hid F3
  have h3 := Lib.hid h3
  clear F hb3 hw2
  cases hr : inR D a with
  | false =>
    go_wp2
    have F4 := F3.out.put (.slice A D.length cap) (.int .i64 cnt)
    have hz := cell2 F4.res
    refine bodyPost_ret (v := .tuple #[.agg #[.slice A D.length cap, .int .i64 cnt], .int .u64 0, .int .i64 1]) ?_ rfl ⟨_, cnt, D, 0, 1, rfl, ?_, .inl rfl, F4.bel⟩
    · generalize ((w3.setCell ⟨w.heap.size + 1, 0, none⟩ (.slice A D.length cap)).setCell ⟨w.heap.size + 1, 1, none⟩ (.int .i64 cnt)) = wz at hz ⊢
      simp [results, Try.results43, go_sem, hz]
    · exact H.out.below F4.bel
  | true =>
    obtain ⟨h0, h1⟩ := inR_true.1 hr
    obtain ⟨i, rfl⟩ := Int.eq_ofNat_of_zero_le h0
    obtain ⟨g, cap0, hv, hBg, hc0, hm0, hg0, hcell, hf0⟩ := own_shape h3.out.own (by omega)
    obtain ⟨rfl, rfl⟩ : A = some ⟨g, 0, none⟩ ∧ cap = cap0 := by cases hv; exact ⟨rfl, rfl⟩
    have hci := hcell i (by omega)
    rw [show (D.map (Value.int .u64)).getD i (.bool false) = .int .u64 (D.getD i 0) by simp [List.getD, show i < D.length by omega]] at hci
    clear hcell hf0 hv
    obtain ⟨g2, cap2, hv2, _, _, _, hgw, _, _⟩ := own_shape H.out.own (by omega)
    obtain rfl : g = g2 := by cases hv2; rfl
    have gn0 : g ≠ w.heap.size := by omega
    have gn1 : g ≠ w.heap.size + 1 := by omega
    have gn2 : ¬ w.heap.size + 1 = g := by omega
    have gn3 : ¬ w.heap.size = g := by omega
    clear hv2
    generalize D.getD i 0 = y at hci
    go_wp2_with fail
    go_region_held3 (fun w' => w'.cell? ⟨w.heap.size, 0, none⟩ = some (.slice (some ⟨g, 0, none⟩) D.length cap) ∧ w'.cell? ⟨w.heap.size, 1, none⟩ = some (.int .i64 cnt) ∧ w'.cell? ⟨g, i, none⟩ = some (.int .u64 y))
      (first | go_keep | exact S5)
      (first | (go_at_call 52; refine (put _ D _ B (RefAt.drew h3.out) cnt i (by omega) (IntKind.u64.wrap (y + x))).mono ?_; rintro e w5 ⟨s', cnt', rfl, h5, hb5⟩
                obtain ⟨A', cap', hs', hcap'⟩ := own_any h5.own
                rw [List.length_set] at hs'
                subst hs'
                have F5 := F3.out.drew.next hb5
                obtain ⟨r0, r1, r2, r3⟩ := cell2 F5.res
                obtain ⟨b0, b1, b2, b3⟩ := cell2 F5.arg
                have S5 := And.intro b0 (And.intro b1 ((hb5.cell (p := ⟨g, i, none⟩) hg0).trans hci))
                have F5 := Lib.hid F5
                have h5 := Lib.hid h5))
    have hs3 := F3.out.bel.size
    have hr3 := lt_of_heap F3.out.res
    go_wp2
    have F6 := F5.out.put (.slice A' D.length cap') (.int .i64 cnt')
    have hz := cell2 F6.res
    refine bodyPost_ret (v := .tuple #[.agg #[.slice A' D.length cap', .int .i64 cnt'], .int .u64 y, .int .i64 0]) ?_ rfl ⟨_, cnt', D.set i (IntKind.u64.wrap (y + x)), y, 0, rfl, ?_, ?_, F6.bel⟩
    · generalize ((w5.setCell ⟨w.heap.size + 1, 0, none⟩ (.slice A' D.length cap')).setCell ⟨w.heap.size + 1, 1, none⟩ (.int .i64 cnt')) = wz at hz ⊢
      simp [results, Try.results43, go_sem, hz]
    · have q := h5.out.put2 (k := w.heap.size + 1) (by simp; omega) (.slice A' D.length cap') (.int .i64 cnt')
      exact q.lower (by simp; omega)
    · exact .inr (fun k hk => by have := h5.out.gbase hk; simp at this; omega)
end Go.Proofs.Ytllibgjajlgnbaa.Ref
