/- The reference's slab: Free. -/
import Derived.Test.YtllibgjajlgnbaaSlabRef
namespace Go.Proofs.Ytllibgjajlgnbaa.SlabRef
open Go Go.RowKit Go.Proofs.Ytllibgjajlgnbaa.Only Go.Proofs.Ytllibgjajlgnbaa.Mem Go.Proofs.Ytllibgjajlgnbaa.New Go.Proofs.Ytllibgjajlgnbaa.Ref Go.Proofs.Ytllibgjajlgnbaa.Slab
set_option linter.unusedVariables false
set_option linter.unusedSimpArgs false

/-- A block of the reference's slabs. -/
def X7 (q : Nat) (c : Array Value) (w : World) : Prop := w.heap[q]? = some (.cells c 52 (0, 0))
theorem X7.below {q : Nat} {c : Array Value} {w w' : World} (h : X7 q c w) (hb : Below w.heap.size w w') : X7 q c w' := (hb.block _ (lt_of_heap h)).trans h
theorem X7.alloc {q : Nat} {c : Array Value} {w : World} (h : X7 q c w) (o : Obj) : X7 q c (w.alloc o) := h.below ((Below.refl _ _).alloc (Nat.le_refl _) o)
theorem X7.lt {q : Nat} {c : Array Value} {w : World} (h : X7 q c w) : q < w.heap.size := lt_of_heap h
theorem X7.ty {q k : Nat} {c d : Array Value} {T : TypeId} {w : World} (h : X7 q c w) (hk : w.heap[k]? = some (.cells d T (0, 0))) (hT : 52 ≠ T) : q ≠ k := ty_ne hT h hk
theorem X7.grown {q : Nat} {c : Array Value} {w w' : World} {B n : Nat} {T : TypeId} {v : Value} {xs : List Value} (h : X7 q c w) (hv : w.ownsRow B T 1 v n xs) (hg : w.grownBy w' v.ownBlock) (hT : 52 ≠ T) : X7 q c w' :=
  (hg.block q h.lt (fun e => by
    obtain ⟨_, _, d, hd⟩ := own_blk hv e.symm
    exact h.ty hd hT rfl)).trans h
theorem X7.set {q k o : Nat} {c : Array Value} {w : World} (h : X7 q c w) (hk : q ≠ k) (u : Value) : X7 q c (w.setCell ⟨k, o, none⟩ u) := (Below.heap_setCell _ _ _ _ hk).trans h
theorem own_grown {w w' : World} {B n B' n' : Nat} {T T' : TypeId} {v v' : Value} {xs ys : List Value} (h : w.ownsRow B T 1 v n xs) (hv : w.ownsRow B' T' 1 v' n' ys) (hg : w.grownBy w' v'.ownBlock) (hT : T ≠ T') : w'.ownsRow B T 1 v n xs :=
  h.kept hg (by
    cases hk : v.ownBlock with
    | none => exact .inl rfl
    | some k =>
      right
      intro e
      obtain ⟨_, _, c, hc⟩ := own_blk h hk
      obtain ⟨_, _, d, hd⟩ := own_blk hv e.symm
      exact ty_ne hT hc hd rfl)
theorem own_alloc {w : World} {B n : Nat} {T : TypeId} {v : Value} {xs : List Value} (h : w.ownsRow B T 1 v n xs) (o : Obj) : (w.alloc o).ownsRow B T 1 v n xs := own_keep h (ofBelow ((Below.refl _ _).alloc (Nat.le_refl _) o)) (S := fun _ => False) (fun _ _ x => x)
theorem own_far {w : World} {B n k o : Nat} {T : TypeId} {v : Value} {xs : List Value} (h : w.ownsRow B T 1 v n xs) (hk : v.ownBlock ≠ some k) (u : Value) : (w.setCell ⟨k, o, none⟩ u).ownsRow B T 1 v n xs :=
  own_keep h ((refl (fun j => j = k) w).setCell (p := ⟨k, o, none⟩) (fun _ => rfl) u) (fun j hj e => hk (e ▸ hj))
theorem le_alloc {B : Nat} {w : World} (h : B ≤ w.heap.size) (o : Obj) : B ≤ (w.alloc o).heap.size := by simp; omega
theorem newEmpty (w : World) (T : TypeId) (B : Nat) (hB : B ≤ w.heap.size) : (w.alloc (.cells #[] T)).ownsRow B T 1 (.slice (some ⟨w.heap.size, 0, none⟩) 0 0) 0 [] :=
  ⟨by simp, .inr ⟨w.heap.size, 0, #[], rfl, hB, heap_alloc_new w _, Nat.le_refl _, by simp [maxLen], by simp, by simp⟩⟩
theorem newEmpty1 (w : World) (X : Obj) (T : TypeId) (B : Nat) (hB : B ≤ w.heap.size) : ((w.alloc X).alloc (.cells #[] T)).ownsRow B T 1 (.slice (some ⟨w.heap.size + 1, 0, none⟩) 0 0) 0 [] := by
  have h := newEmpty (w.alloc X) T B (le_alloc hB X)
  rw [show (w.alloc X).heap.size = w.heap.size + 1 by simp] at h
  exact h
theorem cells7 {g : Nat} {c0 c1 c2 c3 c4 c5 c6 : Value} {w : World} (h : X7 g #[c0, c1, c2, c3, c4, c5, c6] w) :
    (w.cell? ⟨g, 0, none⟩ = some c0 ∧ w.cell? ⟨g, 1, none⟩ = some c1 ∧ w.cell? ⟨g, 2, none⟩ = some c2 ∧ w.cell? ⟨g, 3, none⟩ = some c3 ∧ w.cell? ⟨g, 4, none⟩ = some c4 ∧ w.cell? ⟨g, 5, none⟩ = some c5 ∧ w.cell? ⟨g, 6, none⟩ = some c6) ∧ ∀ i, w.frozen? ⟨g, i, none⟩ = false := by
  unfold X7 at h
  simp [World.cell?, World.frozen?, h]
theorem put7 {g : Nat} {c0 c1 c2 c3 c4 c5 c6 : Value} {w : World} (h : X7 g #[c0, c1, c2, c3, c4, c5, c6] w) (u0 u1 u2 u3 u4 u5 u6 : Value) :
    X7 g #[u0, u1, u2, u3, u4, u5, u6] (((((((w.setCell ⟨g, 0, none⟩ u0).setCell ⟨g, 1, none⟩ u1).setCell ⟨g, 2, none⟩ u2).setCell ⟨g, 3, none⟩ u3).setCell ⟨g, 4, none⟩ u4).setCell ⟨g, 5, none⟩ u5).setCell ⟨g, 6, none⟩ u6) := by
  unfold X7 at h ⊢
  simp [World.setCell, Array.getElem?_modify, h]
theorem src_cells {w : World} {B n : Nat} {T : TypeId} {xs : List Value} {g cap : Nat} (h : w.ownsRow B T 1 (.slice (some ⟨g, 0, none⟩) n cap) n xs) : ∀ j u, xs[j]? = some u → w.cell? ((⟨g, 0, none⟩ : Addr).add j) = some u := h.cells (g := g) rfl
theorem ints_one (xs : List Int) : ∀ u ∈ xs.map (Value.int .i64), u.oneCell' = true := by
  intro u hu
  obtain ⟨x, _, rfl⟩ := List.mem_map.1 hu
  rfl
theorem bools_one (xs : List Bool) : ∀ u ∈ xs.map Value.bool, u.oneCell' = true := by
  intro u hu
  obtain ⟨x, _, rfl⟩ := List.mem_map.1 hu
  rfl

theorem end7 {w w3 : World} {g B : Nat} {c0 c1 c2 c3 c4 c5 c6 : Value} (h : X7 g #[c0, c1, c2, c3, c4, c5, c6] w3) (hb : Below B w w3) (hg : B ≤ g) (u0 u1 u2 u3 u4 u5 u6 : Value) :
    ∃ w4, w4 = (((((((w3.setCell ⟨g, 0, none⟩ u0).setCell ⟨g, 1, none⟩ u1).setCell ⟨g, 2, none⟩ u2).setCell ⟨g, 3, none⟩ u3).setCell ⟨g, 4, none⟩ u4).setCell ⟨g, 5, none⟩ u5).setCell ⟨g, 6, none⟩ u6) ∧
      (w4.cell? ⟨g, 0, none⟩ = some u0 ∧ w4.cell? ⟨g, 1, none⟩ = some u1 ∧ w4.cell? ⟨g, 2, none⟩ = some u2 ∧ w4.cell? ⟨g, 3, none⟩ = some u3 ∧ w4.cell? ⟨g, 4, none⟩ = some u4 ∧ w4.cell? ⟨g, 5, none⟩ = some u5 ∧ w4.cell? ⟨g, 6, none⟩ = some u6) ∧ Below B w w4 ∧ Only (fun k => k = g) w3 w4 := by
  have hp := put7 h u0 u1 u2 u3 u4 u5 u6
  exact ⟨_, rfl, (cells7 hp).1, ((((((hb.setCell (p := ⟨g, 0, none⟩) hg _).setCell (p := ⟨g, 1, none⟩) hg _).setCell (p := ⟨g, 2, none⟩) hg _).setCell (p := ⟨g, 3, none⟩) hg _).setCell (p := ⟨g, 4, none⟩) hg _).setCell (p := ⟨g, 5, none⟩) hg _).setCell (p := ⟨g, 6, none⟩) hg _,
    ((((((((refl (fun k => k = g) w3).setCell (p := ⟨g, 0, none⟩) (fun _ => rfl) _).setCell (p := ⟨g, 1, none⟩) (fun _ => rfl) _).setCell (p := ⟨g, 2, none⟩) (fun _ => rfl) _).setCell (p := ⟨g, 3, none⟩) (fun _ => rfl) _).setCell (p := ⟨g, 4, none⟩) (fun _ => rfl) _).setCell (p := ⟨g, 5, none⟩) (fun _ => rfl) _).setCell (p := ⟨g, 6, none⟩) (fun _ => rfl) _)⟩
theorem two7 (w : World) (X : Obj) : X7 (w.heap.size + 1) #[.slice none 0 0, .int .i64 0, .int .i64 0, .int .i64 0, .slice none 0 0, .slice none 0 0, .slice none 0 0] ((w.alloc X).alloc (.cells #[.slice none 0 0, .int .i64 0, .int .i64 0, .int .i64 0, .slice none 0 0, .slice none 0 0, .slice none 0 0] 52)) := by
  have := heap_alloc_new (w.alloc X) (.cells #[.slice none 0 0, .int .i64 0, .int .i64 0, .int .i64 0, .slice none 0 0, .slice none 0 0, .slice none 0 0] 52)
  rw [show (w.alloc X).heap.size = w.heap.size + 1 by simp] at this
  exact this
theorem bel_grown {B : Nat} {w W w' : World} {row : Option Nat} (h : Below B w W) (hg : W.grownBy w' row) (hr : ∀ k, row = some k → B ≤ k) (hB : B ≤ W.heap.size) : Below B w w' :=
  ⟨hg.os.trans h.os, hg.tape.trans h.tape, hg.output.trans h.output, Nat.le_trans h.size hg.size, fun k hk => (hg.block k (Nat.lt_of_lt_of_le hk hB) (fun e => by have := hr k e.symm; omega)).trans (h.block k hk)⟩

theorem set7_5 {g : Nat} {c0 c1 c2 c3 c4 c5 c6 : Value} {w : World} (h : X7 g #[c0, c1, c2, c3, c4, c5, c6] w) (u : Value) : X7 g #[c0, c1, c2, c3, c4, u, c6] (w.setCell ⟨g, 5, none⟩ u) := by
  unfold X7 at h ⊢
  simp [World.setCell, Array.getElem?_modify, h]
theorem set7_6 {g : Nat} {c0 c1 c2 c3 c4 c5 c6 : Value} {w : World} (h : X7 g #[c0, c1, c2, c3, c4, c5, c6] w) (u : Value) : X7 g #[c0, c1, c2, c3, c4, c5, u] (w.setCell ⟨g, 6, none⟩ u) := by
  unfold X7 at h ⊢
  simp [World.setCell, Array.getElem?_modify, h]
theorem set7_4 {g : Nat} {c0 c1 c2 c3 c4 c5 c6 : Value} {w : World} (h : X7 g #[c0, c1, c2, c3, c4, c5, c6] w) (u : Value) : X7 g #[c0, c1, c2, c3, u, c5, c6] (w.setCell ⟨g, 4, none⟩ u) := by
  unfold X7 at h ⊢
  simp [World.setCell, Array.getElem?_modify, h]
theorem ne_of_own {B n q : Nat} {T : TypeId} {v : Value} {xs : List Value} {c : Array Value} {w : World} (h : X7 q c w) (hv : w.ownsRow B T 1 v n xs) (hT : 52 ≠ T) : v.ownBlock ≠ some q := by
  intro e
  obtain ⟨_, _, d, hd⟩ := own_blk hv e
  exact h.ty hd hT rfl

theorem RefSl.keepX {B q : Nat} {vC vG vT vR : Value} {C : List Int} {s : Sl} {c : Array Value} {w w' : World} (h : RefSl B vC vG vT vR C s w) (hx : X7 q c w) (ho : Only (fun k => k = q) w w') : RefSl B vC vG vT vR C s w' := by
  refine h.keep ho (fun k hk e => ?_)
  subst e
  rcases hk with e | e | e | e
  · exact ne_of_own hx h.c.own (by decide) e
  · exact ne_of_own hx h.g (by decide) e
  · exact ne_of_own hx h.t (by decide) e
  · exact ne_of_own hx h.r (by decide) e

/-- The blocks of the reference's slab. -/
def OwnX (vC vG vT vR : Value) (k : Nat) : Prop := vC.ownBlock = some k ∨ vG.ownBlock = some k ∨ vT.ownBlock = some k ∨ vR.ownBlock = some k
/-- What a turned reference leaves. -/
def RTo (B : Nat) (uC uG uT uR : Value) (cnt : Int) (C : List Int) (s : Sl) (ans : List Value) (w : World) (e : Ending) (w' : World) : Prop :=
  ∃ vC vG vT vR, e = .returned (.tuple ((Value.agg (xv vC cnt s vG vT vR) :: ans).toArray)) ∧ RefSl B vC vG vT vR C s w' ∧ Below w.heap.size w w' ∧ ∀ k, OwnX vC vG vT vR k → OwnX uC uG uT uR k ∨ w.heap.size ≤ k

section
variable {B : Nat} {vC vG vT vR : Value} {C : List Int} {s : Sl} {w : World}

set_option maxHeartbeats 8000000 in
set_option maxRecDepth 100000 in
theorem rfree_no (h : RefSl B vC vG vT vR C s w) (ok : s.Ok) (cnt r : Int) (hr : 0 ≤ r ∧ r ≤ 18446744073709551615) (hno : thereB s r = false) :
    Calls Try.prog 49 #[.agg (xv vC cnt s vG vT vR), .int .u64 r] w fun e w' => e = .returned (.tuple #[.agg (xv vC cnt s vG vT vR), .int .i64 4]) ∧ Below w.heap.size w w' := by
  obtain ⟨AC, cC, e1, -⟩ := own_any h.c.own
  obtain ⟨AG, cG, e2, -⟩ := own_any h.g
  obtain ⟨AT, cT, e3, -⟩ := own_any h.t
  obtain ⟨AR, cR, e4, -⟩ := own_any h.r
  subst e1 e2 e3 e4
  have hb : Below w.heap.size w ((w.alloc (.cells (xv (.slice AC C.length cC) cnt s (.slice AG s.gens.length cG) (.slice AT s.taken.length cT) (.slice AR s.row.length cR)) 52)).alloc (.cells #[.slice none 0 0, .int .i64 0, .int .i64 0, .int .i64 0, .slice none 0 0, .slice none 0 0, .slice none 0 0] 52)) := ((Below.refl _ _).alloc (Nat.le_refl _) _).alloc (by simp) _
  have H := rthere (h.below hb) ok cnt r hr
  rw [hno] at H
  have ha : X7 w.heap.size (xv (.slice AC C.length cC) cnt s (.slice AG s.gens.length cG) (.slice AT s.taken.length cT) (.slice AR s.row.length cR)) ((w.alloc (.cells (xv (.slice AC C.length cC) cnt s (.slice AG s.gens.length cG) (.slice AT s.taken.length cT) (.slice AR s.row.length cR)) 52)).alloc (.cells #[.slice none 0 0, .int .i64 0, .int .i64 0, .int .i64 0, .slice none 0 0, .slice none 0 0, .slice none 0 0] 52)) := X7.alloc (heap_alloc_new w _) _
  have hx : X7 (w.heap.size + 1) #[.slice none 0 0, .int .i64 0, .int .i64 0, .int .i64 0, .slice none 0 0, .slice none 0 0, .slice none 0 0] ((w.alloc (.cells (xv (.slice AC C.length cC) cnt s (.slice AG s.gens.length cG) (.slice AT s.taken.length cT) (.slice AR s.row.length cR)) 52)).alloc (.cells #[.slice none 0 0, .int .i64 0, .int .i64 0, .int .i64 0, .slice none 0 0, .slice none 0 0, .slice none 0 0] 52)) := by
    have := heap_alloc_new (w.alloc (.cells (xv (.slice AC C.length cC) cnt s (.slice AG s.gens.length cG) (.slice AT s.taken.length cT) (.slice AR s.row.length cR)) 52)) (.cells #[.slice none 0 0, .int .i64 0, .int .i64 0, .int .i64 0, .slice none 0 0, .slice none 0 0, .slice none 0 0] 52)
    rw [show (w.alloc (.cells (xv (.slice AC C.length cC) cnt s (.slice AG s.gens.length cG) (.slice AT s.taken.length cT) (.slice AR s.row.length cR)) 52)).heap.size = w.heap.size + 1 by simp] at this
    exact this
  unfold xv at *
  replace H := Lib.hid H
  replace hb := Lib.hid hb
  replace ha := Lib.hid ha
  replace hx := Lib.hid hx
  clear h
  go_enter Try.func49, Try.ntmps49
  go_wp2_with fail
  refine H.out.mono ?_
  rintro e w2 ⟨rfl, hb2⟩
  have a2 := ha.out.below hb2
  have x2 := hx.out.below hb2
  have hb2 := Lib.hid (hb.out.trans (hb2.mono hb.out.size))
  obtain ⟨⟨c0, c1, c2, c3, c4, c5, c6⟩, fa⟩ := cells7 a2
  obtain ⟨⟨d0, d1, d2, d3, d4, d5, d6⟩, fx⟩ := cells7 x2
  have f0 := fx 0
  have f1 := fx 1
  have f2 := fx 2
  have f3 := fx 3
  have f4 := fx 4
  have f5 := fx 5
  have f6 := fx 6
  clear fa fx H hb ha hx
  replace x2 := Lib.hid x2
  replace a2 := Lib.hid a2
  go_wp2
  obtain ⟨w4, e4, ⟨y0, y1, y2, y3, y4, y5, y6⟩, b4, -⟩ := end7 x2.out hb2.out (by omega) (.slice AC C.length cC) (.int .i64 cnt) (.int .i64 s.first) (.int .i64 s.words) (.slice AG s.gens.length cG) (.slice AT s.taken.length cT) (.slice AR s.row.length cR)
  rw [← e4]
  exact bodyPost_ret (v := .tuple #[.agg #[.slice AC C.length cC, .int .i64 cnt, .int .i64 s.first, .int .i64 s.words, .slice AG s.gens.length cG, .slice AT s.taken.length cT, .slice AR s.row.length cR], .int .i64 4]) (by simp [results, Try.results49, go_sem, y0, y1, y2, y3, y4, y5, y6]) rfl ⟨rfl, b4⟩

set_option maxHeartbeats 16000000 in
set_option maxRecDepth 100000 in
theorem rfree (h : RefSl B vC vG vT vR C s w) (hB : B ≤ w.heap.size) (ok : s.Ok) (cnt r : Int) (hr : 0 ≤ r ∧ r ≤ 18446744073709551615) (hyes : thereB s r = true) :
    Calls Try.prog 49 #[.agg (xv vC cnt s vG vT vR), .int .u64 r] w (RTo B vC vG vT vR cnt C (freeS s r) [.int .i64 0] w) := by
  obtain ⟨i0, hi, hzz⟩ := Option.map_eq_some_iff.1 info_int
  simp only [Prod.mk.injEq] at hzz
  obtain ⟨hz0, hz1, hz2⟩ := hzz
  obtain ⟨ib, hib, hzz⟩ := Option.map_eq_some_iff.1 info_bool
  simp only [Prod.mk.injEq] at hzz
  obtain ⟨hb0, hb1, hb2⟩ := hzz
  have hp := thereB_place hyes
  have hmost := ok.most
  have hrows := ok.rows
  obtain ⟨i, hpi⟩ := Int.eq_ofNat_of_zero_le hp.1
  have hgi : i < s.gens.length := by omega
  have hti : i < s.taken.length := by rw [ok.len]; omega
  have htl : s.taken.length ≤ 65536 := by rw [ok.len]; omega
  have eF : freeS s r = { s with taken := s.taken.set i false, row := s.row ++ [(i : Int)] } := by unfold freeS; rw [hpi]; rfl
  rw [eF]
  clear eF
  obtain ⟨AC, cC, e1, -⟩ := own_any h.c.own
  obtain ⟨AG, cG, e2, -⟩ := own_any h.g
  obtain ⟨gT, cT, e3, -, -, -, -, -, -⟩ := own_shape h.t (by omega)
  obtain ⟨gR, cR, e4⟩ := h.rn
  subst e1 e2 e3 e4
  have hb : Below w.heap.size w ((w.alloc (.cells (xv (.slice AC C.length cC) cnt s (.slice AG s.gens.length cG) (.slice (some ⟨gT, 0, none⟩) s.taken.length cT) (.slice (some ⟨gR, 0, none⟩) s.row.length cR)) 52)).alloc (.cells #[.slice none 0 0, .int .i64 0, .int .i64 0, .int .i64 0, .slice none 0 0, .slice none 0 0, .slice none 0 0] 52)) := ((Below.refl _ _).alloc (Nat.le_refl _) _).alloc (by simp) _
  have H := rthere (h.below hb) ok cnt r hr
  rw [hyes] at H
  have ha : X7 w.heap.size (xv (.slice AC C.length cC) cnt s (.slice AG s.gens.length cG) (.slice (some ⟨gT, 0, none⟩) s.taken.length cT) (.slice (some ⟨gR, 0, none⟩) s.row.length cR)) ((w.alloc (.cells (xv (.slice AC C.length cC) cnt s (.slice AG s.gens.length cG) (.slice (some ⟨gT, 0, none⟩) s.taken.length cT) (.slice (some ⟨gR, 0, none⟩) s.row.length cR)) 52)).alloc (.cells #[.slice none 0 0, .int .i64 0, .int .i64 0, .int .i64 0, .slice none 0 0, .slice none 0 0, .slice none 0 0] 52)) := X7.alloc (heap_alloc_new w _) _
  have hx := two7 w (.cells (xv (.slice AC C.length cC) cnt s (.slice AG s.gens.length cG) (.slice (some ⟨gT, 0, none⟩) s.taken.length cT) (.slice (some ⟨gR, 0, none⟩) s.row.length cR)) 52)
  have h2 := h.below hb
  have pl := fun w' => rplace r hr w'
  rw [hpi] at pl
  unfold xv at *
  generalize hw1 : ((w.alloc (.cells #[.slice AC C.length cC, .int .i64 cnt, .int .i64 s.first, .int .i64 s.words, .slice AG s.gens.length cG, .slice (some ⟨gT, 0, none⟩) s.taken.length cT, .slice (some ⟨gR, 0, none⟩) s.row.length cR] 52)).alloc (.cells #[.slice none 0 0, .int .i64 0, .int .i64 0, .int .i64 0, .slice none 0 0, .slice none 0 0, .slice none 0 0] 52)) = w1 at *
  replace H := Lib.hid H
  replace hb := Lib.hid hb
  replace ha := Lib.hid ha
  replace hx := Lib.hid hx
  replace h2 := Lib.hid h2
  replace pl := Lib.hid pl
  replace hw1 := Lib.hid hw1
  clear h ok hyes hpi hp
  go_enter Try.func49, Try.ntmps49
  go_wp2_with fail
  rw [hw1.out]
  refine H.out.mono ?_
  rintro e w2 ⟨rfl, hb2'⟩
  have a2 := ha.out.below hb2'
  have x2 := hx.out.below hb2'
  have R2 := Lib.hid (h2.out.below hb2')
  have hb2' := Lib.hid (hb.out.trans (hb2'.mono hb.out.size))
  have hsz : w.heap.size + 2 ≤ w2.heap.size := by have := X7.lt x2; omega
  have hlt0 : w.heap.size < w2.heap.size := by omega
  have hlt1 : w.heap.size + 1 < w2.heap.size := by omega
  clear H hb ha hx h2 hw1
  replace x2 := Lib.hid x2
  replace a2 := Lib.hid a2
  go_wp2_with fail
  refine (pl.out w2).mono ?_
  rintro e w' ⟨rfl, rfl⟩
  obtain ⟨⟨c0, c1, c2, c3, c4, c5, c6⟩, -⟩ := cells7 a2.out
  have q2 : w.heap.size ≤ w2.heap.size := by omega
  have hm1 : 0 + s.taken.length ≤ maxLen := by unfold maxLen; omega
  have hn1 : (0 + s.taken.length) * 1 ≤ 140737488355328 := by omega
  go_wp2_with (at_builtin; refine wpList_append_own_at _ rfl _ _ 50 rfl w.heap.size 4 ib (.bool false) 1 1 Try.underlying50 hib hb0 hb1 hb2 rfl (by decide) _ _ _ rfl (newEmpty1 _ _ 4 w.heap.size q2) ⟨gT, 0, none⟩ s.taken.length cT (s.taken.map Value.bool) rfl (by simp) (src_cells (own_alloc (own_alloc R2.out.t _) _)) (bools_one _) hm1 hn1 (le_alloc (le_alloc q2 _) _) ?_)
  intro v1 w4 hv1 hg1 _ hat1
  have Bel1 : Below w2.heap.size w2 w4 := bel_grown (((Below.refl _ _).alloc (Nat.le_refl _) _).alloc (le_alloc (Nat.le_refl _) _) _) hg1 (fun k hk => by simp [Value.ownBlock] at hk; omega) (le_alloc (le_alloc (Nat.le_refl _) _) _)
  have O1 : X7 w2.heap.size #[.slice AC C.length cC, .int .i64 cnt, .int .i64 s.first, .int .i64 s.words, .slice AG s.gens.length cG, .slice (some ⟨gT, 0, none⟩) s.taken.length cT, .slice (some ⟨gR, 0, none⟩) s.row.length cR] w4 := X7.grown (X7.alloc (heap_alloc_new w2 _) _) (newEmpty1 w2 _ 4 w.heap.size q2) hg1 (by decide)
  obtain ⟨t1, ct1, e1, hBt1, -, -, hlt1', xt1, ft1⟩ := own_shape hv1 (by omega)
  subst e1
  have nto : ¬ w2.heap.size = t1 := fun e => ne_of_own O1 hv1 (by decide) (by rw [e]; rfl)
  have nto' : ¬ t1 = w2.heap.size := fun e => nto e.symm
  have ht1 : w2.heap.size ≤ t1 := by
    rcases hat1 with e | e <;> simp [Value.ownBlock] at e <;> omega
  have xt := xt1 i hti
  have ft := ft1 i
  clear c0 c1 c2 c3 c4 c5 c6 xt1 ft1 hg1 hat1
  obtain ⟨⟨o0, o1, o2, o3, o4, o5, o6⟩, fo⟩ := cells7 O1
  have fo5 := fo 5
  have fo6 := fo 6
  obtain ⟨⟨c0, c1, c2, c3, c4, c5, c6⟩, -⟩ := cells7 (a2.out.below Bel1)
  have s4 : w2.heap.size ≤ w4.heap.size := Bel1.size
  have O5 := (set7_5 O1 (.slice (some ⟨t1, 0, none⟩) s.taken.length ct1)).set (k := t1) (o := i) nto (.bool false)
  have T5 := own_set (own_far (k := w2.heap.size) (o := 5) hv1 (ne_of_own O1 hv1 (by decide)) (.slice (some ⟨t1, 0, none⟩) s.taken.length ct1)) i hti (.bool false)
  have Bel5 := (Bel1.setCell (p := ⟨w2.heap.size, 5, none⟩) (Nat.le_refl _) (.slice (some ⟨t1, 0, none⟩) s.taken.length ct1)).setCell (p := ⟨t1, i, none⟩) ht1 (.bool false)
  have R5 := R2.out.below Bel5
  have ar5 := (cells7 (a2.out.below Bel5)).1.2.2.2.2.2.2
  rw [← List.map_set] at T5
  replace O5 := Lib.hid O5
  replace T5 := Lib.hid T5
  replace Bel5 := Lib.hid Bel5
  replace R5 := Lib.hid R5
  have hm2 : 0 + s.row.length ≤ maxLen := by unfold maxLen; omega
  have hn2 : (0 + s.row.length) * 8 ≤ 140737488355328 := by omega
  have q5 : w.heap.size ≤ ((w4.setCell ⟨w2.heap.size, 5, none⟩ (.slice (some ⟨t1, 0, none⟩) s.taken.length ct1)).setCell ⟨t1, i, none⟩ (.bool false)).heap.size := Nat.le_trans q2 Bel5.out.size
  have b5 : decide ((i : Int) < (s.taken.length : Int)) = true := by simp; omega
  have hE5 := newEmpty ((w4.setCell ⟨w2.heap.size, 5, none⟩ (.slice (some ⟨t1, 0, none⟩) s.taken.length ct1)).setCell ⟨t1, i, none⟩ (.bool false)) 3 w.heap.size q5
  have eS5 : ((w4.setCell ⟨w2.heap.size, 5, none⟩ (.slice (some ⟨t1, 0, none⟩) s.taken.length ct1)).setCell ⟨t1, i, none⟩ (.bool false)).heap.size = w4.heap.size := by simp [World.setCell]
  rw [eS5] at hE5
  replace hE5 := Lib.hid hE5
  clear eS5
  have na1 : ¬ t1 = w.heap.size := by omega
  have na2 : ¬ w.heap.size = t1 := by omega
  have na3 : ¬ w2.heap.size = w.heap.size := by omega
  have na4 : ¬ w.heap.size = w2.heap.size := by omega
  have hw4 : w.heap.size < w4.heap.size := by omega
  clear O1 hv1 Bel1
  go_wp2_with (at_builtin; refine wpList_append_own_at _ rfl _ _ 49 rfl w.heap.size 3 i0 (.int .i64 0) 1 8 Try.underlying49 hi hz0 hz1 hz2 rfl (by decide) _ _ _ rfl hE5.out ⟨gR, 0, none⟩ s.row.length cR (s.row.map (Value.int .i64)) rfl (by simp) (src_cells (own_alloc R5.out.r _)) (ints_one _) hm2 hn2 (le_alloc q5 _) ?_)
  intro v2 w6 hv2 hg2 _ hat2
  have Bel6 : Below w2.heap.size w2 w6 := bel_grown (Bel5.out.alloc Bel5.out.size _) hg2 (fun k hk => by simp [Value.ownBlock] at hk; omega) (le_alloc Bel5.out.size _)
  have O6 := X7.grown (O5.out.alloc _) hE5.out hg2 (by decide)
  have T6 := own_grown (own_alloc T5.out _) hE5.out hg2 (by decide)
  have q6 : w.heap.size ≤ w6.heap.size := Nat.le_trans q2 Bel6.size
  have hv2a := own_alloc hv2 (.cells #[.int .i64 i] 3)
  have hr2 : ∀ k, v2.ownBlock = some k → w2.heap.size ≤ k := by
    intro k hk
    rcases hat2 with e | e
    · rw [hk] at e; simp [Value.ownBlock] at e; omega
    · rw [hk] at e; simp at e; omega
  obtain ⟨A2, c2', e2, -⟩ := own_any hv2
  subst e2
  have hm3 : s.row.length + 1 ≤ maxLen := by unfold maxLen; omega
  have hn3 : (s.row.length + 1) * 8 ≤ 140737488355328 := by omega
  replace Bel6 := Lib.hid Bel6
  replace O6 := Lib.hid O6
  replace T6 := Lib.hid T6
  replace hv2a := Lib.hid hv2a
  replace hr2 := Lib.hid hr2
  clear c0 c1 c2 c3 c4 c5 c6 o0 o1 o2 o3 o4 o5 o6 fo fo5 fo6 xt ft hv2 hg2 hat2 ar5 hE5
  go_wp2_with (at_builtin; refine wpList_append_own_at _ rfl _ _ 49 rfl w.heap.size 3 i0 (.int .i64 0) 1 8 Try.underlying49 hi hz0 hz1 hz2 rfl (by decide) _ _ _ rfl hv2a.out ⟨w6.heap.size, 0, none⟩ 1 1 [.int .i64 i] rfl rfl (cell_one_new _ _ _) (ints_one [(i : Int)]) hm3 hn3 (le_alloc q6 _) ?_)
  intro v3 w7 hv3 hg3 _ hat3
  have Bel7 : Below w2.heap.size w2 w7 := bel_grown (Bel6.out.alloc Bel6.out.size _) hg3 hr2.out (le_alloc Bel6.out.size _)
  have O7 := X7.grown (O6.out.alloc _) hv2a.out hg3 (by decide)
  have T7 := own_grown (own_alloc T6.out _) hv2a.out hg3 (by decide)
  obtain ⟨g3, c3, e3, -, -, -, -, -, -⟩ := own_shape hv3 (by omega)
  subst e3
  have X7' := x2.out.below Bel7
  obtain ⟨⟨o0, o1, o2, o3, o4, o5, o6⟩, fo⟩ := cells7 O7
  have fo6 := fo 6
  obtain ⟨⟨d0, d1, d2, d3, d4, d5, d6⟩, fx⟩ := cells7 X7'
  have f0 := fx 0
  have f1 := fx 1
  have f2 := fx 2
  have f3 := fx 3
  have f4 := fx 4
  have f5 := fx 5
  have f6 := fx 6
  have nb1 : ¬ w2.heap.size = w.heap.size + 1 := by omega
  have nb2 : ¬ w.heap.size + 1 = w2.heap.size := by omega
  have O8 := set7_6 O7 (.slice (some ⟨g3, 0, none⟩) (s.row.length + 1) c3)
  have X8 := X7'.set (k := w2.heap.size) (o := 6) nb2 (.slice (some ⟨g3, 0, none⟩) (s.row.length + 1) c3)
  have Bel8 := Bel7.setCell (p := ⟨w2.heap.size, 6, none⟩) (Nat.le_refl _) (.slice (some ⟨g3, 0, none⟩) (s.row.length + 1) c3)
  have R8 := R2.out.below Bel8
  have T8 := own_far (k := w2.heap.size) (o := 6) T7 (ne_of_own O7 T7 (by decide)) (.slice (some ⟨g3, 0, none⟩) (s.row.length + 1) c3)
  have r8 := own_far (k := w2.heap.size) (o := 6) hv3 (ne_of_own O7 hv3 (by decide)) (.slice (some ⟨g3, 0, none⟩) (s.row.length + 1) c3)
  have bel8 : Below w.heap.size w (w7.setCell ⟨w2.heap.size, 6, none⟩ (.slice (some ⟨g3, 0, none⟩) (s.row.length + 1) c3)) := hb2'.out.trans (Bel8.mono q2)
  have S8 : RefSl B (.slice AC C.length cC) (.slice AG s.gens.length cG) (.slice (some ⟨t1, 0, none⟩) s.taken.length ct1) (.slice (some ⟨g3, 0, none⟩) (s.row.length + 1) c3) C { s with taken := s.taken.set i false, row := s.row ++ [(i : Int)] } (w7.setCell ⟨w2.heap.size, 6, none⟩ (.slice (some ⟨g3, 0, none⟩) (s.row.length + 1) c3)) := by
    refine ⟨R8.c, R8.g, ?_, ?_, g3, c3, by simp⟩
    · have := own_mono T8 hB
      simpa using this
    · have := own_mono r8 hB
      simpa using this
  obtain ⟨w9, e9, ⟨y0, y1, y2, y3, y4, y5, y6⟩, b9, on9⟩ := end7 X8 bel8 (by omega) (.slice AC C.length cC) (.int .i64 cnt) (.int .i64 s.first) (.int .i64 s.words) (.slice AG s.gens.length cG) (.slice (some ⟨t1, 0, none⟩) s.taken.length ct1) (.slice (some ⟨g3, 0, none⟩) (s.row.length + 1) c3)
  have S9 := S8.keepX X8 on9
  have fr : ∀ k, OwnX (.slice AC C.length cC) (.slice AG s.gens.length cG) (.slice (some ⟨t1, 0, none⟩) s.taken.length ct1) (.slice (some ⟨g3, 0, none⟩) (s.row.length + 1) c3) k → OwnX (.slice AC C.length cC) (.slice AG s.gens.length cG) (.slice (some ⟨gT, 0, none⟩) s.taken.length cT) (.slice (some ⟨gR, 0, none⟩) s.row.length cR) k ∨ w.heap.size ≤ k := by
    rintro k (e | e | e | e)
    · exact .inl (.inl e)
    · exact .inl (.inr (.inl e))
    · exact .inr (own_blk T8 e).1
    · exact .inr (own_blk r8 e).1
  replace fr := Lib.hid fr
  replace S9 := Lib.hid S9
  replace b9 := Lib.hid b9
  replace e9 := Lib.hid e9
  clear O7 T7 X7' O8 X8 Bel7 Bel8 R8 T8 r8 bel8 S8 on9 hv3 hg3 hat3 fo fx
  go_wp2
  rw [← e9.out]
  refine bodyPost_ret (v := .tuple #[.agg #[.slice AC C.length cC, .int .i64 cnt, .int .i64 s.first, .int .i64 s.words, .slice AG s.gens.length cG, .slice (some ⟨t1, 0, none⟩) s.taken.length ct1, .slice (some ⟨g3, 0, none⟩) (s.row.length + 1) c3], .int .i64 0]) (by simp [results, Try.results49, go_sem, y0, y1, y2, y3, y4, y5, y6]) rfl ⟨_, _, _, _, rfl, S9.out, b9.out, fr.out⟩
end
end Go.Proofs.Ytllibgjajlgnbaa.SlabRef
