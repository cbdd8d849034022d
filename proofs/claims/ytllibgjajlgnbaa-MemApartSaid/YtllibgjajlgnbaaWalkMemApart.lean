/- MemApart: the walk. -/
import Derived.Test.YtllibgjajlgnbaaLawKit
namespace Go.Proofs.Ytllibgjajlgnbaa.WalkMemApart
open Go Go.RowKit Go.Proofs.Ytllibgjajlgnbaa.Only Go.Proofs.Ytllibgjajlgnbaa.Mem Go.Proofs.Ytllibgjajlgnbaa.New Go.Proofs.Ytllibgjajlgnbaa.Args Go.Proofs.Ytllibgjajlgnbaa.LawKit
set_option linter.unusedVariables false
set_option linter.unusedSimpArgs false

set_option maxHeartbeats 4000000 in
set_option maxRecDepth 100000 in
theorem walk (V : Value) (ds : List (List Int)) (dk da dold dx a : Int) (hk : -9223372036854775808 ≤ dk ∧ dk ≤ 9223372036854775807) (hd : -9223372036854775808 ≤ da ∧ da ≤ 9223372036854775807) (ho : 0 ≤ dold ∧ dold ≤ 18446744073709551615) (hdx : 0 ≤ dx ∧ dx ≤ 18446744073709551615) (ha : 0 ≤ a ∧ a ≤ 255) (W : World) (hV : Structs [.i64, .i64, .u64, .u64] W V ds) :
    Calls Try.prog 4 #[V, .agg #[.int .i64 dk, .int .i64 da, .int .u64 dold, .int .u64 dx], .int .u8 a] W fun e w' => e = .returned (.bool true) ∧ Below W.heap.size W w' := by
  have hV := Lib.hid hV
  obtain ⟨c, rfl⟩ := Int.eq_ofNat_of_zero_le ha.1
  go_enter Try.func4, Try.ntmps4
  go_wp2_with fail
  have hb0 : Below W.heap.size W (W.alloc (.cells #[.int .i64 dk, .int .i64 da, .int .u64 dold, .int .u64 dx] 34)) := (Below.refl _ _).alloc (Nat.le_refl _) _
  have hx := heap_alloc_new W (.cells #[.int .i64 dk, .int .i64 da, .int .u64 dold, .int .u64 dx] 34)
  have hs0 : (W.alloc (.cells #[.int .i64 dk, .int .i64 da, .int .u64 dold, .int .u64 dx] 34)).heap.size = W.heap.size + 1 := by simp
  have hb0 := Lib.hid hb0
  generalize (W.alloc (.cells #[.int .i64 dk, .int .i64 da, .int .u64 dold, .int .u64 dx] 34)) = w0 at *
  have hx := Lib.hid hx
  refine (New.awake w0).mono ?_
  rintro e w1 ⟨rfl, hb1⟩
  have hV1 := Lib.hid (structs_below hV.out (hb0.out.trans (hb1.mono hb0.out.size)))
  have far : ∀ w', Below w1.heap.size w1 w' → (w'.cell? ⟨W.heap.size, 0, none⟩ = some (.int .i64 dk) ∧ w'.cell? ⟨W.heap.size, 1, none⟩ = some (.int .i64 da) ∧ w'.cell? ⟨W.heap.size, 2, none⟩ = some (.int .u64 dold) ∧ w'.cell? ⟨W.heap.size, 3, none⟩ = some (.int .u64 dx)) ∧ Below W.heap.size W w' := by
    intro w' hb
    have hbb := hb1.trans (hb.mono hb1.size)
    exact ⟨Do.cell4 ((hbb.block W.heap.size (by omega)).trans hx.out), hb0.out.trans (hbb.mono hb0.out.size)⟩
  have hb1 := Lib.hid hb1
  obtain ⟨⟨c0, c1, c2, c3⟩, hW1⟩ := far w1 (Below.refl _ _)
  have far := Lib.hid far
  have hW1 := Lib.hid hW1
  have hq8 : c % 8 < 8 := Nat.mod_lt _ (by omega)
  have hqe : ((c : Int) % 8) = ((c % 8 : Nat) : Int) := rfl
  rw [← hqe] at *
  cases hq : (da == ((c : Int) % 8)) with
  | true =>
    go_wp2
    go_ret
    exact ⟨rfl, hW1.out⟩
  | false =>
    have hne : da ≠ ((c % 8 : Nat) : Int) := by simpa using hq
    go_wp2_with fail
    rw [show ((c : Int) % 8) = ((c % 8 : Nat) : Int) from rfl]
    generalize c % 8 = q at *
    refine (Ran.ran V ds w1 hV1.out).mono ?_
    rintro e w2 ⟨p, v, C, n, rfl, h2, h8, hm, hn0, hn60, hb2⟩
    have h2 := Lib.hid h2
    have hb2 := Lib.hid hb2
    have hqC : q < C.length := by omega
    have hin := inC h8 hq8
    go_wp2_with fail
    refine (Mem.load h2.out q (by omega) (by omega)).mono ?_
    rintro e w3 ⟨rfl, h3, ho3⟩
    have hb3 := Lib.hid (hb2.out.trans (footB h2.out ho3 hb2.out.size))
    have h3 := Lib.hid h3
    have hh := Ran.hit_range C q
    rw [err0 hin]
    clear ho3 c0 c1 c2 c3
    obtain ⟨⟨c0, c1, c2, c3⟩, hW3⟩ := far.out w3 hb3.out
    clear hW3
    have hmk : ∀ w : World, (Instr.makeSlice 22 (.int .i64 8) (.int .i64 8)).run Try.prog w = .ok (.slice (some ⟨w.heap.size, 0, none⟩) 8 8) (w.alloc (.cells (madeCells #[.int .u64 0] 8) 26)) := run_make_row' (P := Try.prog) 22 26 (.int .u64 0) 8 Try.underlying22 info_u64 rfl .i64 .i64 8 (by omega) (by omega)
    have hbx : Below w3.heap.size w3 (w3.alloc (.cells (madeCells #[.int .u64 0] 8) 26)).drew := ((Below.refl _ _).alloc (Nat.le_refl _) _).drew
    have hmx := Lib.hid (h3.out.below hbx)
    have hr : Ref.RefAt w1.heap.size (.slice (some ⟨w3.heap.size, 0, none⟩) 8 8) (List.replicate 8 0) (w3.alloc (.cells (madeCells #[.int .u64 0] 8) 26)).drew := by
      refine Ref.RefAt.drew ⟨?_, by simp, by simp⟩
      have h := World.ownsRow_lit (base := w1.heap.size) w3 (madeCells #[.int .u64 0] 8) (size := 1) (e := 26) 8 hb3.out.size (by simp [maxLen]) (by rw [size_madeCells])
      rw [toList_madeCells_one] at h
      simpa using h
    have hap : Do.Apart p v (.slice (some ⟨w3.heap.size, 0, none⟩) 8 8) := by
      intro k hk
      have e : w3.heap.size = k := by simpa [Value.ownBlock] using hk
      have hl := Do.foot_lt h3.out
      exact ⟨fun hh => hl k (by omega) (.inl hh), fun hh => hl k (by omega) (.inr hh)⟩
    have hr := Lib.hid hr
    have hap := Lib.hid hap
    have hbx := Lib.hid hbx
    go_wp2_with fail
    go_region_held3 (fun w' => w'.cell? ⟨W.heap.size, 0, none⟩ = some (.int .i64 dk) ∧ w'.cell? ⟨W.heap.size, 1, none⟩ = some (.int .i64 da) ∧ w'.cell? ⟨W.heap.size, 2, none⟩ = some (.int .u64 dold) ∧ w'.cell? ⟨W.heap.size, 3, none⟩ = some (.int .u64 dx))
      (first | go_keep | exact S5)
      (first
        | (go_at_call 18 ; refine (Ran.deed hmx.out hm hr.out hap.out (by have := hb3.out.size ; simp ; omega) 0 dk da dold dx hd ?_).mono ?_ ; (omega) ; rintro e w5 ⟨v', s', cnt', D', ok, rfl, m5, r5, ap5, o5, hv5⟩ ; have B5 := hb3.out.trans ((hbx.out.mono hb3.out.size).trans (footB hmx.out o5 (by have := hb3.out.size ; simp ; omega))) ; obtain ⟨S5, hW5⟩ := far.out w5 B5 ; have K5 := Lib.hid (And.intro m5 (And.intro B5 hW5)) ; clear m5 r5 ap5 o5 hv5 B5 hW5))
    obtain ⟨m5, B5, hW5⟩ := K5.out
    have hl5 := Ran.doC_length C dk da dold dx h8 hm
    have hn5 := Ran.doN_range C dk da (n + hit C q)
    have hin5 := inC hl5.1 hq8
    have e5 := doC_other dk da dold dx hqC hne
    have m5 := Lib.hid m5
    have B5 := Lib.hid B5
    clear hW5
    go_wp2_with fail
    refine (Mem.load m5.out q (by omega) (by omega)).mono ?_
    rintro e w6 ⟨rfl, h6, ho6⟩
    rw [err0 hin5, e5]
    have B6 := B5.out.trans (footB m5.out ho6 B5.out.size)
    obtain ⟨_, hW6⟩ := far.out w6 B6
    have hW6 := Lib.hid hW6
    clear h6 ho6 B6
    go_wp2
    go_ret
    exact ⟨rfl, hW6.out⟩
end Go.Proofs.Ytllibgjajlgnbaa.WalkMemApart
