/- ContainsFunc, Contains. -/
import Derived.Test.YtecjkpjcmgohmabOr
namespace Go.Proofs.Ytecjkpjcmgohmab.Or
open Go Go.RowKit Go.Maps Go.Proofs.Ytecjkpjcmgohmab.Only Go.Proofs.Ytecjkpjcmgohmab.Pu
set_option linter.unusedVariables false
set_option linter.unusedSimpArgs false
instance : Inhabited C := ⟨nilC⟩
theorem bang (l : List C) (i : Nat) : l[i]! = at' l i := by
  unfold at'
  rw [List.getD_eq_getElem?_getD, List.getElem!_eq_getElem?_getD]
  rfl
theorem selfAhead (c : C) (w : World) : Calls Try.prog 17 #[V c] w fun e w' => e = .returned (.bool (ahd c c)) ∧ Below w.heap.size w w' := by
  have hA := Lib.hid (fun w => aheadC c c w)
  unfold V at hA ⊢
  go_enter Try.func17, Try.ntmps17
  go_wp2_with fail
  refine (hA.out _).mono ?_
  rintro e w' ⟨rfl, hb⟩
  go_wp2
  go_ret
  exact ⟨rfl, ((Below.refl _ _).alloc (Nat.le_refl _) _).trans (hb.mono (by simp))⟩
theorem anyC {w : World} {B : Nat} {v : Value} {l : List C} (h : Own w B v l) : Calls Try.prog 16 #[v, .func (.func 17) #[] #[]] w fun e w' => e = .returned (.bool (l.any (fun c => ahd c c))) ∧ Below w.heap.size w w' := by
  have eg : ∀ args w, (callFunc 17 args).run Try.prog w = .ok (.enter 17 args) w := enters_of Try.func17 (by kernel_rfl) rfl
  by_cases hl : 0 < l.length
  · obtain ⟨a, cap, -, -, hcap⟩ := own_any h
    obtain ⟨g, cap, rfl, -, hg, -⟩ := own_cells h hl
    have hlen : l.length ≤ 9223372036854775807 := by
      obtain ⟨a', c', hv, q1, q2⟩ := own_any h
      unfold maxLen at q2; omega
    have hcon := AnyQ.slices_ContainsFunc Try.cfA 5 Try.isAgg29 Try.sizeOf29 cel cel_len (fun c => ahd c c) 17 #[] eg g 0 l.length cap l w
      (fun W x hb => (selfAhead x W).mono (fun e w' ⟨h1, h2⟩ => ⟨h1, hb.trans (h2.mono hb.size)⟩)) (Nat.le_refl _) hlen hg (fun j hj i v hi => by
        obtain ⟨g', cap', hv, -, -, hc⟩ := own_cells h hj
        injection hv with e1 _ e2
        injection e1 with e1
        injection e1 with e1
        subst e1
        rw [bang] at hi
        rw [Nat.zero_add]
        match i, hi with
        | 0, hi => cases hi; exact hc.c0
        | 1, hi => cases hi; exact hc.c1
        | 2, hi => cases hi; exact hc.c2
        | 3, hi => cases hi; exact hc.c3
        | 4, hi => cases hi; exact hc.c4
        | i + 5, hi => simp [cel] at hi)
    change Calls Try.prog 16 _ _ _ at hcon
    rw [List.take_length] at hcon
    exact hcon
  · have h0 : l = [] := List.eq_nil_of_length_eq_zero (by omega)
    subst h0
    obtain ⟨a, cap, rfl, -, -⟩ := own_any h
    go_enter Try.func16, Try.ntmps16
    go_wp2
    refine wp_loop_rounds 1 ?_
    rw [rounds_succ]
    go_wp2
    go_ret
    exact ⟨rfl, Below.refl _ _⟩
/-- A slice of strings. -/
structure Strs (w : World) (v : Value) (zs : List ByteArray) : Prop where
  shape : ∃ a cap, v = .slice a zs.length cap ∧ zs.length ≤ maxLen ∧ ∀ i, i < zs.length → ∃ g o, a = some ⟨g, o, none⟩ ∧ g < w.heap.size ∧ w.cell? ⟨g, o + i, none⟩ = some (.string (zs.getD i ByteArray.empty))
theorem Strs.below {w w' : World} {v : Value} {zs : List ByteArray} (h : Strs w v zs) (hb : Below w.heap.size w w') : Strs w' v zs := by
  obtain ⟨a, cap, hv, hl, hx⟩ := h.shape
  refine ⟨a, cap, hv, hl, fun i hi => ?_⟩
  obtain ⟨g, o, ha, hg, hc⟩ := hx i hi
  exact ⟨g, o, ha, Nat.lt_of_lt_of_le hg hb.size, (hb.cell (p := ⟨g, o + i, none⟩) hg).trans hc⟩
theorem Strs.nil (w : World) : Strs w (.slice none 0 0) [] := ⟨none, 0, rfl, by simp [maxLen], fun i hi => by simp at hi⟩
theorem containsC {w : World} {v : Value} {zs : List ByteArray} (h : Strs w v zs) (k : ByteArray) : Calls Try.prog 19 #[v, .string k] w fun e w' => e = .returned (.bool (mbr zs k)) ∧ w' = w := by
  rw [← mbr_contains]
  obtain ⟨a, cap, rfl, hl, hx⟩ := h.shape
  by_cases h0 : 0 < zs.length
  · obtain ⟨g, o, rfl, hg, -⟩ := hx 0 h0
    have hcon := Any.slices_Contains_string Try.lays110 g o zs.length cap zs k w (Nat.le_refl _) (by unfold maxLen at hl; omega) (fun j hj => by
      obtain ⟨g', o', e, -, hc⟩ := hx j hj
      cases e
      exact hc)
    change Calls Try.prog 19 _ _ _ at hcon
    rw [List.take_length] at hcon
    exact hcon
  · have h0 : zs = [] := List.eq_nil_of_length_eq_zero (by omega)
    subst h0
    exact Any.slices_Contains_string_empty Try.lays110 a cap k w
end Go.Proofs.Ytecjkpjcmgohmab.Or
