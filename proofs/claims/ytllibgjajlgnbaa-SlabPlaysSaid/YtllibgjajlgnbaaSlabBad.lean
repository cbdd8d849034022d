/- begun, of no records. -/
import Derived.Test.YtllibgjajlgnbaaSlabKit
namespace Go.Proofs.Ytllibgjajlgnbaa.SlabBad
open Go Go.RowKit Go.Proofs.Ytllibgjajlgnbaa.Only Go.Proofs.Ytllibgjajlgnbaa.Mem Go.Proofs.Ytllibgjajlgnbaa.New Go.Proofs.Ytllibgjajlgnbaa.Ref Go.Proofs.Ytllibgjajlgnbaa.Slab Go.Proofs.Ytllibgjajlgnbaa.SlabRef Go.Proofs.Ytllibgjajlgnbaa.SlabDo
set_option linter.unusedVariables false
set_option linter.unusedSimpArgs false

set_option maxHeartbeats 8000000 in
set_option maxRecDepth 100000 in
theorem rnew_none {B : Nat} {vC : Value} {C : List Int} {w : World} (h : RefAt B vC C w) (cnt words most : Int) (hw : words < 1 ∨ most < 1) (hw1 : -9223372036854775808 ≤ words ∧ words ≤ 9223372036854775807) (hm1 : -9223372036854775808 ≤ most ∧ most ≤ 9223372036854775807) :
    Calls Try.prog 47 #[.agg #[vC, .int .i64 cnt], .int .i64 words, .int .i64 most] w fun e w' => e = .returned (.tuple #[.agg #[.slice none 0 0, .int .i64 0, .int .i64 0, .int .i64 0, .slice none 0 0, .slice none 0 0, .slice none 0 0], .bool false]) ∧ Below w.heap.size w w' := by
  obtain ⟨AC, cC, e1, -⟩ := own_any h.own
  subst e1
  obtain ⟨x1, x2, x3⟩ := two_new w (.cells #[.slice AC C.length cC, .int .i64 cnt] 37) (.cells #[.slice none 0 0, .int .i64 0, .int .i64 0, .int .i64 0, .slice none 0 0, .slice none 0 0, .slice none 0 0] 52)
  obtain ⟨⟨y0, y1, y2, y3, y4, y5, y6⟩, -⟩ := cells7 (show X7 (w.heap.size + 1) _ _ from x2)
  clear h
  by_cases h1 : words < 1
  · have b1 : decide (words < 1) = true := decide_eq_true h1
    replace x3 := Lib.hid x3
    go_enter Try.func47, Try.ntmps47
    go_wp2
    refine bodyPost_ret (v := .tuple #[.agg #[.slice none 0 0, .int .i64 0, .int .i64 0, .int .i64 0, .slice none 0 0, .slice none 0 0, .slice none 0 0], .bool false]) (by simp [results, Try.results47, go_sem, y0, y1, y2, y3, y4, y5, y6]) rfl ⟨rfl, x3.out⟩
  · have b1 : decide (words < 1) = false := decide_eq_false h1
    have b2 : decide (most < 1) = true := decide_eq_true (by omega)
    replace x3 := Lib.hid x3
    go_enter Try.func47, Try.ntmps47
    go_wp2
    refine bodyPost_ret (v := .tuple #[.agg #[.slice none 0 0, .int .i64 0, .int .i64 0, .int .i64 0, .slice none 0 0, .slice none 0 0, .slice none 0 0], .bool false]) (by simp [results, Try.results47, go_sem, y0, y1, y2, y3, y4, y5, y6]) rfl ⟨rfl, x3.out⟩

set_option maxHeartbeats 8000000 in
set_option maxRecDepth 100000 in
theorem begun_bad (words most : Int) (hw : words < 1 ∨ most < 1) (hw1 : -9223372036854775808 ≤ words ∧ words ≤ 9223372036854775807) (hm1 : -9223372036854775808 ≤ most ∧ most ≤ 9223372036854775807) (w : World) :
    Calls Try.prog 32 #[.int .i64 words, .int .i64 most] w fun e w' => (∃ p, e = .returned (.tuple #[.agg #[.pointer none, .pointer (some ⟨p, 0, none⟩), .slice none 0 0, .int .i64 0, .int .i64 0, .int .i64 0, .slice none 0 0, .slice none 0 0, .slice none 0 0, .slice none 0 0], .bool true])) ∧ Below w.heap.size w w' := by
  have hb0 : Below w.heap.size w (w.alloc (.cells #[.pointer none, .pointer none, .slice none 0 0, .int .i64 0, .int .i64 0, .int .i64 0, .slice none 0 0, .slice none 0 0, .slice none 0 0, .slice none 0 0] 54)) := (Below.refl _ _).alloc (Nat.le_refl _) _
  have hx := heap_alloc_new w (.cells #[.pointer none, .pointer none, .slice none 0 0, .int .i64 0, .int .i64 0, .int .i64 0, .slice none 0 0, .slice none 0 0, .slice none 0 0, .slice none 0 0] 54)
  have hN := fun W => New.new 3 (by omega) W
  replace hN := Lib.hid hN
  replace hw := Lib.hid hw
  go_enter Try.func32, Try.ntmps32
  go_wp2_with fail
  refine (hN.out _).mono ?_
  rintro e w1 ⟨p, v, rfl, -, b1⟩
  go_wp2_with fail
  refine (Slab.new_bad _ (.inr ⟨_, rfl⟩) words most hw1 hm1 (by rcases hw.out with h | h; exact .inl h; exact .inr (.inl h)) w1).mono ?_
  rintro e w' ⟨rfl, rfl⟩
  have mk : ∀ w : World, (Instr.makeSlice 22 (.int .i64 3) (.int .i64 3)).run Try.prog w = .ok (.slice (some ⟨w.heap.size, 0, none⟩) 3 3) (w.alloc (.cells (madeCells #[.int .u64 0] 3) 26)) := fun w => run_make_row' (P := Try.prog) 22 26 (.int .u64 0) 8 Try.underlying22 info_u64 rfl .i64 .i64 3 (by omega) (by omega) w
  go_wp2_with fail
  have M := heap_alloc_new w1 (.cells (madeCells #[.int .u64 0] 3) 26)
  have R0 : RefAt w1.heap.size (.slice (some ⟨w1.heap.size, 0, none⟩) 3 3) (List.replicate 3 0) (w1.alloc (.cells (madeCells #[.int .u64 0] 3) 26)) := ⟨by have := own_made M (Nat.le_refl _) (by omega); simpa using this, by simp, by simp⟩
  refine (rnew_none R0 0 words most hw.out hw1 hm1).mono ?_
  rintro e w3 ⟨rfl, b3⟩
  have bel3 : Below w1.heap.size w1 w3 := ((Below.refl _ _).alloc (Nat.le_refl _) _).trans (b3.mono (le_alloc (Nat.le_refl _) _))
  have s1 := b1.size
  have X3 : X10 w.heap.size _ w3 := (bel3.block _ (by simp at s1; omega)).trans ((b1.block _ (by simp)).trans hx)
  have Y3 := (show X10 w.heap.size _ (w3.alloc (.cells #[.slice none 0 0, .int .i64 0, .int .i64 0, .int .i64 0, .slice none 0 0, .slice none 0 0, .slice none 0 0] 52)) from (heap_alloc_old _ _ (lt_of_heap X3)).trans X3)
  obtain ⟨⟨d0, d1, d2, d3, d4, d5, d6, d7, d8, d9⟩, fx⟩ := cells10 Y3
  have f0 := fx 0
  have f1 := fx 1
  have f2 := fx 2
  have f3 := fx 3
  have f4 := fx 4
  have f5 := fx 5
  have f6 := fx 6
  have f7 := fx 7
  have f8 := fx 8
  have f9 := fx 9
  clear fx
  have belw : Below w.heap.size w (w3.alloc (.cells #[.slice none 0 0, .int .i64 0, .int .i64 0, .int .i64 0, .slice none 0 0, .slice none 0 0, .slice none 0 0] 52)) :=
    (((hb0.trans (b1.mono (by simp))).trans (bel3.mono (by simp at s1; omega))).alloc (by have := bel3.size; simp at s1; omega) _)
  obtain ⟨w9, e9, ⟨y0, y1, y2, y3, y4, y5, y6, y7, y8, y9⟩, b9, on9⟩ := end10 Y3 belw (Nat.le_refl _) (.pointer none) (.pointer (some ⟨p, 0, none⟩)) (.slice none 0 0) (.int .i64 0) (.int .i64 0) (.int .i64 0) (.slice none 0 0) (.slice none 0 0) (.slice none 0 0) (.slice none 0 0)
  replace e9 := Lib.hid e9
  replace b9 := Lib.hid b9
  clear mk R0 M X3 Y3 belw bel3 b3 hx hb0
  go_wp2
  rw [← e9.out]
  exact bodyPost_ret (v := .tuple #[.agg #[.pointer none, .pointer (some ⟨p, 0, none⟩), .slice none 0 0, .int .i64 0, .int .i64 0, .int .i64 0, .slice none 0 0, .slice none 0 0, .slice none 0 0, .slice none 0 0], .bool true]) (by simp [results, Try.results32, go_sem, y0, y1, y2, y3, y4, y5, y6, y7, y8, y9]) rfl ⟨⟨p, rfl⟩, b9.out⟩
end Go.Proofs.Ytllibgjajlgnbaa.SlabBad
