/- The laws' own functions over both slabs: told, begun. -/
import Derived.Test.YtllibgjajlgnbaaSlabRef4
namespace Go.Proofs.Ytllibgjajlgnbaa.SlabDo
open Go Go.RowKit Go.Proofs.Ytllibgjajlgnbaa.Only Go.Proofs.Ytllibgjajlgnbaa.Mem Go.Proofs.Ytllibgjajlgnbaa.New Go.Proofs.Ytllibgjajlgnbaa.Ref Go.Proofs.Ytllibgjajlgnbaa.Slab Go.Proofs.Ytllibgjajlgnbaa.SlabRef
set_option linter.unusedVariables false
set_option linter.unusedSimpArgs false

def toldV (L : List Int) (n : Nat) : Int := if L.length ≤ n then 0 else L.getD (L.length - 1 - n) 0

set_option maxHeartbeats 4000000 in
set_option maxRecDepth 100000 in
theorem told {B : Nat} {v : Value} {L : List Int} {w : World} (h : w.ownsRow B 26 1 v L.length (L.map (Value.int .u64))) (hL : L.length ≤ 1000) (n : Nat) (hn : n ≤ 255) :
    Calls Try.prog 29 #[v, .int .u8 n] w fun e w' => e = .returned (.int .u64 (toldV L n)) ∧ w = w' := by
  obtain ⟨A, c, e1, -⟩ := own_any h
  subst e1
  by_cases hlt : L.length ≤ n
  · have b1 : decide ((L.length : Int) ≤ (n : Int)) = true := decide_eq_true (by omega)
    have e : toldV L n = 0 := by unfold toldV; rw [if_pos hlt]
    rw [e]
    clear h e
    go_enter Try.func29, Try.ntmps29
    go_wp2
    go_ret
    exact ⟨rfl, rfl⟩
  · have b1 : decide ((L.length : Int) ≤ (n : Int)) = false := decide_eq_false (by omega)
    have e : toldV L n = L.getD (L.length - 1 - n) 0 := by unfold toldV; rw [if_neg hlt]
    obtain ⟨g, c', e1, -, -, -, -, hx, -⟩ := own_shape h (by omega)
    injection e1 with e2 e3 e4
    subst e2 e4
    obtain ⟨j, hj⟩ : ∃ j, L.length = j + 1 + n := ⟨L.length - 1 - n, by omega⟩
    have xj := hx j (by omega)
    have ej : (L.map (Value.int .u64)).getD j (.bool false) = .int .u64 (L.getD (L.length - 1 - n) 0) := by
      rw [show L.length - 1 - n = j by omega]
      have : j < L.length := by omega
      simp [List.getD, this]
    rw [ej] at xj
    rw [e]
    generalize L.getD (L.length - 1 - n) 0 = x at *
    have b2 : decide ((j : Int) < (j : Int) + 1 + (n : Int)) = true := decide_eq_true (by omega)
    have e5 : IntKind.i64.wrap ((j : Int) + 1 + (n : Int) - 1) = (j : Int) + n := by rw [IntWalk.i64_in _ (by omega)]; omega
    have e6 : IntKind.i64.wrap (j : Int) = (j : Int) := IntWalk.i64_in _ (by omega)
    have b3 : decide ((j : Int) + 1 + (n : Int) ≤ (n : Int)) = false := decide_eq_false (by omega)
    rw [hj]
    clear h hx e ej hj hlt b1
    go_enter Try.func29, Try.ntmps29
    go_wp2
    go_ret
    exact ⟨rfl, rfl⟩

theorem slab_mono {B B' sb p : Nat} {v vg vt vr : Value} {C : List Int} {n : Int} {s : Sl} {w : World} (h : SlabAt B sb p v C n vg vt vr s w) (hB : B' ≤ B) : SlabAt B' sb p v C n vg vt vr s w :=
  ⟨⟨Nat.le_trans hB h.mem.base, h.mem.blk, own_mono h.mem.own hB, h.mem.ne⟩, h.blk, own_mono h.g hB, own_mono h.t hB, h.r.imp id (fun ⟨g, o, cap, cur, e, b, r⟩ => ⟨g, o, cap, cur, e, Nat.le_trans hB b, r⟩), Nat.le_trans hB h.base, h.ap⟩
def X10 (q : Nat) (c : Array Value) (w : World) : Prop := w.heap[q]? = some (.cells c 54 (0, 0))
theorem cells10 {g : Nat} {c0 c1 c2 c3 c4 c5 c6 c7 c8 c9 : Value} {w : World} (h : X10 g #[c0, c1, c2, c3, c4, c5, c6, c7, c8, c9] w) :
    (w.cell? ⟨g, 0, none⟩ = some c0 ∧ w.cell? ⟨g, 1, none⟩ = some c1 ∧ w.cell? ⟨g, 2, none⟩ = some c2 ∧ w.cell? ⟨g, 3, none⟩ = some c3 ∧ w.cell? ⟨g, 4, none⟩ = some c4 ∧ w.cell? ⟨g, 5, none⟩ = some c5 ∧ w.cell? ⟨g, 6, none⟩ = some c6 ∧ w.cell? ⟨g, 7, none⟩ = some c7 ∧ w.cell? ⟨g, 8, none⟩ = some c8 ∧ w.cell? ⟨g, 9, none⟩ = some c9) ∧ ∀ i, w.frozen? ⟨g, i, none⟩ = false := by
  unfold X10 at h
  simp [World.cell?, World.frozen?, h]

theorem put10 {g : Nat} {c0 c1 c2 c3 c4 c5 c6 c7 c8 c9 : Value} {w : World} (h : X10 g #[c0, c1, c2, c3, c4, c5, c6, c7, c8, c9] w) (u0 u1 u2 u3 u4 u5 u6 u7 u8 u9 : Value) :
    X10 g #[u0, u1, u2, u3, u4, u5, u6, u7, u8, u9] ((((((((((w.setCell ⟨g, 0, none⟩ u0).setCell ⟨g, 1, none⟩ u1).setCell ⟨g, 2, none⟩ u2).setCell ⟨g, 3, none⟩ u3).setCell ⟨g, 4, none⟩ u4).setCell ⟨g, 5, none⟩ u5).setCell ⟨g, 6, none⟩ u6).setCell ⟨g, 7, none⟩ u7).setCell ⟨g, 8, none⟩ u8).setCell ⟨g, 9, none⟩ u9) := by
  unfold X10 at h ⊢
  simp [World.setCell, Array.getElem?_modify, h]
theorem end10 {w w3 : World} {g B : Nat} {c0 c1 c2 c3 c4 c5 c6 c7 c8 c9 : Value} (h : X10 g #[c0, c1, c2, c3, c4, c5, c6, c7, c8, c9] w3) (hb : Below B w w3) (hg : B ≤ g) (u0 u1 u2 u3 u4 u5 u6 u7 u8 u9 : Value) :
    ∃ w4, w4 = ((((((((((w3.setCell ⟨g, 0, none⟩ u0).setCell ⟨g, 1, none⟩ u1).setCell ⟨g, 2, none⟩ u2).setCell ⟨g, 3, none⟩ u3).setCell ⟨g, 4, none⟩ u4).setCell ⟨g, 5, none⟩ u5).setCell ⟨g, 6, none⟩ u6).setCell ⟨g, 7, none⟩ u7).setCell ⟨g, 8, none⟩ u8).setCell ⟨g, 9, none⟩ u9) ∧
      (w4.cell? ⟨g, 0, none⟩ = some u0 ∧ w4.cell? ⟨g, 1, none⟩ = some u1 ∧ w4.cell? ⟨g, 2, none⟩ = some u2 ∧ w4.cell? ⟨g, 3, none⟩ = some u3 ∧ w4.cell? ⟨g, 4, none⟩ = some u4 ∧ w4.cell? ⟨g, 5, none⟩ = some u5 ∧ w4.cell? ⟨g, 6, none⟩ = some u6 ∧ w4.cell? ⟨g, 7, none⟩ = some u7 ∧ w4.cell? ⟨g, 8, none⟩ = some u8 ∧ w4.cell? ⟨g, 9, none⟩ = some u9) ∧ Below B w w4 ∧ Only (fun k => k = g) w3 w4 := by
  have hp := put10 h u0 u1 u2 u3 u4 u5 u6 u7 u8 u9
  exact ⟨_, rfl, (cells10 hp).1, ((((((((((hb.setCell (p := ⟨g, 0, none⟩) hg u0).setCell (p := ⟨g, 1, none⟩) hg u1).setCell (p := ⟨g, 2, none⟩) hg u2).setCell (p := ⟨g, 3, none⟩) hg u3).setCell (p := ⟨g, 4, none⟩) hg u4).setCell (p := ⟨g, 5, none⟩) hg u5).setCell (p := ⟨g, 6, none⟩) hg u6).setCell (p := ⟨g, 7, none⟩) hg u7).setCell (p := ⟨g, 8, none⟩) hg u8).setCell (p := ⟨g, 9, none⟩) hg u9), (((((((((((refl (fun k => k = g) w3).setCell (p := ⟨g, 0, none⟩) (fun _ => rfl) u0).setCell (p := ⟨g, 1, none⟩) (fun _ => rfl) u1).setCell (p := ⟨g, 2, none⟩) (fun _ => rfl) u2).setCell (p := ⟨g, 3, none⟩) (fun _ => rfl) u3).setCell (p := ⟨g, 4, none⟩) (fun _ => rfl) u4).setCell (p := ⟨g, 5, none⟩) (fun _ => rfl) u5).setCell (p := ⟨g, 6, none⟩) (fun _ => rfl) u6).setCell (p := ⟨g, 7, none⟩) (fun _ => rfl) u7).setCell (p := ⟨g, 8, none⟩) (fun _ => rfl) u8).setCell (p := ⟨g, 9, none⟩) (fun _ => rfl) u9)⟩

/-- Both slabs: the true one and the document's. -/
structure BothAt (B sb p : Nat) (v : Value) (n : Int) (vg vt vr xC xG xT xR vL : Value) (C : List Int) (s : Sl) (L : List Int) (w : World) : Prop where
  sl : SlabAt B sb p v C n vg vt vr s w
  x : RefSl B xC xG xT xR C s w
  l : w.ownsRow B 26 1 vL L.length (L.map (Value.int .u64))
  far : ∀ k, SlF sb p v vg vt vr k → xC.ownBlock ≠ some k ∧ xG.ownBlock ≠ some k ∧ xT.ownBlock ≠ some k ∧ xR.ownBlock ≠ some k ∧ vL.ownBlock ≠ some k
def bv (sb p : Nat) (xC : Value) (cnt : Int) (s : Sl) (xG xT xR vL : Value) : Array Value :=
  #[.pointer (some ⟨sb, 0, none⟩), .pointer (some ⟨p, 0, none⟩), xC, .int .i64 cnt, .int .i64 s.first, .int .i64 s.words, xG, xT, xR, vL]

def Begun (words most : Nat) (w : World) (e : Ending) (w' : World) : Prop :=
  ∃ sb p v vg vt vr xC xG xT xR, e = .returned (.tuple #[.agg (bv sb p xC 0 (newS 3 words most most) xG xT xR (.slice none 0 0)), .bool true]) ∧
    BothAt w.heap.size sb p v 0 vg vt vr xC xG xT xR (.slice none 0 0) (List.replicate (3 + words * most) 0) (newS 3 words most most) [] w' ∧ Below w.heap.size w w'

set_option maxHeartbeats 8000000 in
set_option maxRecDepth 100000 in
theorem begun (words most : Nat) (hw : 1 ≤ words) (hm : 1 ≤ most) (hfit : words * most ≤ 500) (w : World) :
    Calls Try.prog 32 #[.int .i64 words, .int .i64 most] w (Begun words most w) := by
  have hb0 : Below w.heap.size w (w.alloc (.cells #[.pointer none, .pointer none, .slice none 0 0, .int .i64 0, .int .i64 0, .int .i64 0, .slice none 0 0, .slice none 0 0, .slice none 0 0, .slice none 0 0] 54)) := (Below.refl _ _).alloc (Nat.le_refl _) _
  have hx := heap_alloc_new w (.cells #[.pointer none, .pointer none, .slice none 0 0, .int .i64 0, .int .i64 0, .int .i64 0, .slice none 0 0, .slice none 0 0, .slice none 0 0, .slice none 0 0] 54)
  have hN := fun W => New.new 3 (by omega) W
  replace hN := Lib.hid hN
  go_enter Try.func32, Try.ntmps32
  go_wp2_with fail
  refine (hN.out _).mono ?_
  rintro e w1 ⟨p, v, rfl, m1, b1⟩
  go_wp2_with fail
  have q1 : w.heap.size + 1 ≤ w1.heap.size := by have := b1.size; simp at this; omega
  refine (Slab.new m1 b1.size words most hw hm (by simp; omega)).mono ?_
  rintro e w2 ⟨sb, v', vg, vt, vr, rfl, sl, b2⟩
  have mk : ∀ w : World, (Instr.makeSlice 22 (.int .i64 3) (.int .i64 3)).run Try.prog w = .ok (.slice (some ⟨w.heap.size, 0, none⟩) 3 3) (w.alloc (.cells (madeCells #[.int .u64 0] 3) 26)) := fun w => run_make_row' (P := Try.prog) 22 26 (.int .u64 0) 8 Try.underlying22 info_u64 rfl .i64 .i64 3 (by omega) (by omega) w
  go_wp2_with fail
  have M := heap_alloc_new w2 (.cells (madeCells #[.int .u64 0] 3) 26)
  have R0 : RefAt w2.heap.size (.slice (some ⟨w2.heap.size, 0, none⟩) 3 3) (List.replicate 3 0) (w2.alloc (.cells (madeCells #[.int .u64 0] 3) 26)) := ⟨by have := own_made M (Nat.le_refl _) (by omega); simpa using this, by simp, by simp⟩
  refine (rnew R0 (le_alloc (Nat.le_refl _) _) 0 words most hw hm (by simp; omega)).mono ?_
  rintro e w3 ⟨xC, xG, xT, xR, rfl, rs, b3⟩
  rw [show ((List.replicate 3 (0 : Int)).length) = 3 by simp] at rs ⊢
  obtain ⟨D, hD⟩ : ∃ D, List.replicate 3 (0 : Int) ++ List.replicate (words * most) 0 = D := ⟨_, rfl⟩
  obtain ⟨S, hS⟩ : ∃ S, newS 3 words most most = S := ⟨_, rfl⟩
  rw [hD] at rs
  unfold Begun
  rw [show ((3 : Nat) : Int) = 3 by rfl] at rs ⊢
  rw [hS] at rs ⊢
  replace hD := Lib.hid hD
  replace hS := Lib.hid hS
  obtain ⟨AC, cC, e1, -⟩ := own_any rs.c.own
  obtain ⟨AG, cG, e2, -⟩ := own_any rs.g
  obtain ⟨AT, cT, e3, -⟩ := own_any rs.t
  obtain ⟨AR, cR, e4, -⟩ := own_any rs.r
  subst e1 e2 e3 e4
  have bel3 : Below w2.heap.size w2 w3 := ((Below.refl _ _).alloc (Nat.le_refl _) _).trans (b3.mono (le_alloc (Nat.le_refl _) _))
  have sl3 := sl.below bel3
  unfold xv
  replace sl := Lib.hid sl
  replace sl3 := Lib.hid sl3
  replace rs := Lib.hid rs
  clear mk R0 M m1
  have X3 : X10 w.heap.size _ w3 := (bel3.block _ (by have := b2.size; omega)).trans ((b2.block _ (by simp)).trans ((b1.block _ (by simp)).trans hx))
  have Y3 := (show X10 w.heap.size _ (w3.alloc (.cells #[.slice AC D.length cC, .int .i64 0, .int .i64 S.first, .int .i64 S.words, .slice AG S.gens.length cG, .slice AT S.taken.length cT, .slice AR S.row.length cR] 52)) from (heap_alloc_old _ _ (lt_of_heap X3)).trans X3)
  obtain ⟨⟨d0, d1, d2, d3, d4, d5, d6, d7, d8, d9⟩, fx⟩ := cells10 Y3
  have f0 := fx 0
  have f1 := fx 1
  have f2 := fx 2
  have f3 := fx 3
  have f4 := fx 4
  have f5 := fx 5
  have f6 := fx 6
  have f7 := fx 7
  have f8 := fx 8
  have f9 := fx 9
  clear fx
  go_wp2
  have belw : Below w.heap.size w (w3.alloc (.cells #[.slice AC D.length cC, .int .i64 0, .int .i64 S.first, .int .i64 S.words, .slice AG S.gens.length cG, .slice AT S.taken.length cT, .slice AR S.row.length cR] 52)) :=
    ((((hb0.trans (b1.mono (by simp))).trans (b2.mono (by simp))).trans (bel3.mono (by have := b2.size; omega))).alloc (by have := b2.size; have := bel3.size; omega) _)
  obtain ⟨w9, e9, ⟨y0, y1, y2, y3, y4, y5, y6, y7, y8, y9⟩, b9, on9⟩ := end10 Y3 belw (Nat.le_refl _) (.pointer (some ⟨sb, 0, none⟩)) (.pointer (some ⟨p, 0, none⟩)) (.slice AC D.length cC) (.int .i64 0) (.int .i64 S.first) (.int .i64 S.words) (.slice AG S.gens.length cG) (.slice AT S.taken.length cT) (.slice AR S.row.length cR) (.slice none 0 0)
  rw [← e9]
  refine bodyPost_ret (v := .tuple #[.agg #[.pointer (some ⟨sb, 0, none⟩), .pointer (some ⟨p, 0, none⟩), .slice AC D.length cC, .int .i64 0, .int .i64 S.first, .int .i64 S.words, .slice AG S.gens.length cG, .slice AT S.taken.length cT, .slice AR S.row.length cR, .slice none 0 0], .bool true]) (by simp [results, Try.results32, go_sem, y0, y1, y2, y3, y4, y5, y6, y7, y8, y9]) rfl ?_
  have lowR : ∀ k, (Value.slice AC D.length cC).ownBlock = some k ∨ (Value.slice AG S.gens.length cG).ownBlock = some k ∨ (Value.slice AT S.taken.length cT).ownBlock = some k ∨ (Value.slice AR S.row.length cR).ownBlock = some k → w2.heap.size ≤ k := by
    rintro k (e | e | e | e)
    · exact (own_lt rs.out.c.own e).1
    · exact (own_lt rs.out.g e).1
    · exact (own_lt rs.out.t e).1
    · exact (own_lt rs.out.r e).1
  have lowS : ∀ k, SlF sb p v' vg vt vr k → w.heap.size < k ∧ k < w2.heap.size := fun k hk => by
    have := sl.out.low k hk
    simp at this
    omega
  have q2 := b2.size
  have sl9 := slab_mono ((sl3.out.below ((Below.refl _ _).alloc (Nat.le_refl _) _)).keep on9 (fun k hk e => by have := (lowS k hk).1; omega)) (B' := w.heap.size) (by simp)
  have rs9 := ((rs.out.below ((Below.refl _ _).alloc (Nat.le_refl _) _)).keep on9 (fun k hk e => by have := lowR k hk; omega)).mono (B' := w.heap.size) (by omega)
  have eL : List.replicate (3 + words * most) (0 : Int) = D := by rw [← hD.out, List.replicate_append_replicate]
  have eS := hS.out
  refine ⟨sb, p, v', vg, vt, vr, _, _, _, _, by rw [eS]; rfl, ⟨?_, ?_, ⟨rfl, .inl ⟨rfl, rfl⟩⟩, fun k hk => ⟨fun e => ?_, fun e => ?_, fun e => ?_, fun e => ?_, fun e => by simp [Value.ownBlock] at e⟩⟩, b9⟩
  · rw [eL, ← hD.out]
    exact sl9
  · rw [eL, eS]; exact rs9
  · have := lowR k (.inl e); have := (lowS k hk).2; omega
  · have := lowR k (.inr (.inl e)); have := (lowS k hk).2; omega
  · have := lowR k (.inr (.inr (.inl e))); have := (lowS k hk).2; omega
  · have := lowR k (.inr (.inr (.inr e))); have := (lowS k hk).2; omega
end Go.Proofs.Ytllibgjajlgnbaa.SlabDo
