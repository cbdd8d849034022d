/- MemOnce: the walk. -/
import Derived.Test.YtllibgjajlgnbaaLawKit
namespace Go.Proofs.Ytllibgjajlgnbaa.WalkMemOnce
open Go Go.RowKit Go.Proofs.Ytllibgjajlgnbaa.Only Go.Proofs.Ytllibgjajlgnbaa.Mem Go.Proofs.Ytllibgjajlgnbaa.New Go.Proofs.Ytllibgjajlgnbaa.Args Go.Proofs.Ytllibgjajlgnbaa.LawKit
set_option linter.unusedVariables false
set_option linter.unusedSimpArgs false

set_option maxHeartbeats 4000000 in
set_option maxRecDepth 100000 in
theorem walk (V : Value) (ds : List (List Int)) (a v0 v1 : Int) (ha : 0 ≤ a ∧ a ≤ 255) (hv0 : 0 ≤ v0 ∧ v0 ≤ 18446744073709551615) (hv1 : 0 ≤ v1 ∧ v1 ≤ 18446744073709551615) (W : World) (hV : Structs [.i64, .i64, .u64, .u64] W V ds) :
    Calls Try.prog 5 #[V, .int .u8 a, .agg #[.int .u64 v0, .int .u64 v1]] W fun e w' => e = .returned (.bool true) ∧ Below W.heap.size W w' := by
  have hV := Lib.hid hV
  obtain ⟨c, rfl⟩ := Int.eq_ofNat_of_zero_le ha.1
  go_enter Try.func5, Try.ntmps5
  go_wp2_with fail
  have hb0 : Below W.heap.size W (W.alloc (.cells #[.int .u64 v0, .int .u64 v1] 41)) := (Below.refl _ _).alloc (Nat.le_refl _) _
  have hx := heap_alloc_new W (.cells #[.int .u64 v0, .int .u64 v1] 41)
  have hs0 : (W.alloc (.cells #[.int .u64 v0, .int .u64 v1] 41)).heap.size = W.heap.size + 1 := by simp
  have hb0 := Lib.hid hb0
  generalize (W.alloc (.cells #[.int .u64 v0, .int .u64 v1] 41)) = w0 at *
  have hx := Lib.hid hx
  refine (New.awake w0).mono ?_
  rintro e w1 ⟨rfl, hb1⟩
  have hV1 := Lib.hid (structs_below hV.out (hb0.out.trans (hb1.mono hb0.out.size)))
  have hb1 := Lib.hid hb1
  go_wp2_with fail
  rw [show ((c : Int) % 8) = ((c % 8 : Nat) : Int) from rfl]
  have hq8 : c % 8 < 8 := Nat.mod_lt _ (by omega)
  generalize c % 8 = q at *
  refine (Ran.ran V ds w1 hV1.out).mono ?_
  rintro e w2 ⟨p, v, C, n, rfl, h2, h8, hm, hn0, hn60, hb2⟩
  have h2 := Lib.hid h2
  have hb2 := Lib.hid hb2
  have hqC : q < C.length := by omega
  have hin := inC h8 hq8
  have far : ∀ w', Below w1.heap.size w1 w' → w'.cell? ⟨W.heap.size, 0, none⟩ = some (.int .u64 v0) ∧ w'.cell? ⟨W.heap.size, 1, none⟩ = some (.int .u64 v1) ∧ Below W.heap.size W w' := by
    intro w' hb
    have hbb := hb1.out.trans (hb.mono hb1.out.size)
    have hc := Ref.cell2 ((hbb.block W.heap.size (by omega)).trans hx.out)
    exact ⟨hc.1, hc.2.1, hb0.out.trans (hbb.mono hb0.out.size)⟩
  have far := Lib.hid far
  go_wp2_with fail
  refine (Mem.load h2.out q (by omega) (by omega)).mono ?_
  rintro e w3 ⟨rfl, h3, ho3⟩
  have hb3 := Lib.hid (hb2.out.trans (footB h2.out ho3 hb2.out.size))
  have h3 := Lib.hid h3
  clear ho3
  have hh := Ran.hit_range C q
  obtain ⟨c0, c1, hW3⟩ := far.out w3 hb3.out
  have hW3 := Lib.hid hW3
  rw [err0 hin]
  cases hq : (v0 == rdAt C q) with
  | true =>
    go_wp2
    go_ret
    exact ⟨rfl, hW3.out⟩
  | false =>
    have hne : v0 ≠ rdAt C q := by simpa using hq
    have e1 := cas_hit hin
    have e2 := cas_set hin v0
    have e3 := cas_miss hqC hne
    have e4 := cas_keep hqC hne v1
    have e5 := rd_set hqC v0
    have hset : inR (C.set q v0) q = true := by rw [inR_true]; simp; omega
    have e6 := err0 hset
    have E := Lib.hid (And.intro e1 (And.intro e2 (And.intro e3 (And.intro e4 (And.intro e5 e6)))))
    clear e1 e2 e3 e4 e5 e6
    generalize hO : rdAt C q = o at *
    have hO := Lib.hid hO
    go_wp2_with fail
    refine (Mem.cas h3.out q o v0 (by omega) (by omega)).mono ?_
    rintro e w4 ⟨rfl, h4, ho4⟩
    obtain ⟨e1, e2, e3, e4, e5, e6⟩ := E.out
    rw [hO.out, e1]
    rw [e2] at h4
    have hb4 := Lib.hid (hb3.out.trans (footB h3.out ho4 hb3.out.size))
    have h4 := Lib.hid h4
    obtain ⟨c0, c1, hW4⟩ := far.out w4 hb4.out
    clear ho4 e1 e2 e3 e4 e5 e6 hW4
    go_wp2_with fail
    refine (Mem.cas h4.out q o v1 (by omega) (by omega)).mono ?_
    rintro e w5 ⟨rfl, h5, ho5⟩
    obtain ⟨e1, e2, e3, e4, e5, e6⟩ := E.out
    rw [e5, e3]
    rw [e4] at h5
    have hb5 := Lib.hid (hb4.out.trans (footB h4.out ho5 hb4.out.size))
    have h5 := Lib.hid h5
    obtain ⟨c0, c1, hW5⟩ := far.out w5 hb5.out
    clear ho5 e1 e2 e3 e4 e5 e6 hW5
    have hh2 := Ran.hit_range (C.set q v0) q
    go_wp2_with fail
    refine (Mem.load h5.out q (by omega) (by omega)).mono ?_
    rintro e w6 ⟨rfl, h6, ho6⟩
    obtain ⟨e1, e2, e3, e4, e5, e6⟩ := E.out
    rw [e5, e6]
    have hb6 := Lib.hid (hb5.out.trans (footB h5.out ho6 hb5.out.size))
    obtain ⟨c0, c1, hW6⟩ := far.out w6 hb6.out
    have hW6 := Lib.hid hW6
    clear ho6 e1 e2 e3 e4 e5 e6 h6
    go_wp2
    go_ret
    exact ⟨rfl, hW6.out⟩
end Go.Proofs.Ytllibgjajlgnbaa.WalkMemOnce
