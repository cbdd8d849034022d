/- The reference's pool: its slices, its blocks. -/
import Derived.Test.YtecjkpjcmgohmacEpKit
namespace Go.Proofs.Ytecjkpjcmgohmac.EpRef
open Go Go.RowKit Go.Maps Go.Proofs.Ytecjkpjcmgohmac.Only Go.Proofs.Ytecjkpjcmgohmac.Ep
set_option linter.unusedVariables false
set_option linter.unusedSimpArgs false

def things (R : List (Int × Int)) : List Value := R.flatMap fun t => [.int .u64 t.1, .int .i64 t.2]
theorem things_len (R : List (Int × Int)) : (things R).length = R.length * 2 := by
  unfold things
  induction R with
  | nil => rfl
  | cons x t ih => rw [List.flatMap_cons, List.length_append, ih]; simp; omega
theorem things_app (R S : List (Int × Int)) : things (R ++ S) = things R ++ things S := by unfold things; rw [List.flatMap_append]
theorem things_one (R : List (Int × Int)) : ∀ u ∈ things R, u.oneCell' = true := by
  intro u hu
  obtain ⟨x, _, hx⟩ := List.mem_flatMap.1 hu
  simp at hx
  rcases hx with rfl | rfl <;> rfl
theorem things_get (R : List (Int × Int)) (i j : Nat) (hi : i < R.length) (hj : j < 2) : (things R)[i * 2 + j]? = [Value.int .u64 R[i].1, .int .i64 R[i].2][j]? := by
  unfold things
  induction R generalizing i with
  | nil => simp at hi
  | cons x t ih =>
    rw [List.flatMap_cons]
    cases i with
    | zero => rw [List.getElem?_append_left (by simp; omega)]; simp
    | succ i =>
      rw [List.getElem?_append_right (by simp; omega)]
      have := ih i (by simpa using hi)
      rw [show (i + 1) * 2 + j - [Value.int .u64 x.1, .int .i64 x.2].length = i * 2 + j by simp; omega, this]
      simp
/-- The reference's pool: its two slices. -/
structure RefP (B : Nat) (vI : Value) (inn : List Int) (vR : Value) (R : List (Int × Int)) (w : World) : Prop where
  i : w.ownsRow B 3 1 vI inn.length (inn.map (Value.int .i64))
  r : w.ownsRow B 66 2 vR R.length (things R)
def xv (vI : Value) (ep : Int) (vR : Value) : Array Value := #[vI, .int .i64 ep, vR]
theorem own_any' {w : World} {B : Nat} {e : TypeId} {v : Value} {n size : Nat} {xs : List Value} (h : w.ownsRow B e size v n xs) : ∃ a cap, v = .slice a n cap ∧ n ≤ cap := by
  obtain ⟨hl, h2⟩ := h
  rcases h2 with ⟨hv, h0⟩ | ⟨g, cap, cur, hv, hB, hg, hc, _⟩
  · exact ⟨none, 0, by rw [hv, h0], by omega⟩
  · exact ⟨_, cap, hv, hc⟩
/-- The cells of a thing. -/
theorem thingCells {B : Nat} {vR : Value} {R : List (Int × Int)} {w : World} (h : w.ownsRow B 66 2 vR R.length (things R)) {i : Nat} (hi : i < R.length) :
    ∃ g cap, vR = .slice (some ⟨g, 0, none⟩) R.length cap ∧ g < w.heap.size ∧ w.cell? ⟨g, i * 2, none⟩ = some (.int .u64 R[i].1) ∧ w.cell? ⟨g, i * 2 + 1, none⟩ = some (.int .i64 R[i].2) := by
  rcases h.2 with ⟨_, h0⟩ | ⟨g, cap, cur, hv, hB, hg, hc, _⟩
  · omega
  rw [hv] at h
  have c : ∀ j, j < 2 → w.cell? ⟨g, i * 2 + j, none⟩ = [Value.int .u64 R[i].1, .int .i64 R[i].2][j]? := fun j hj => by
    rw [h.cellAt (i * 2 + j) (by omega), things_get R i j hi hj]
  exact ⟨g, cap, hv, lt_of_heap hg, c 0 (by omega), c 1 (by omega)⟩
section
variable {B : Nat} {vI vR : Value} {inn : List Int} {R : List (Int × Int)} {w w' : World}
theorem RefP.keep {S : Nat → Prop} (h : RefP B vI inn vR R w) (ho : Only S w w') (hS : ∀ k, vI.ownBlock = some k ∨ vR.ownBlock = some k → ¬ S k) : RefP B vI inn vR R w' :=
  ⟨own_keep h.i ho (fun k hk => hS k (.inl hk)), own_keep h.r ho (fun k hk => hS k (.inr hk))⟩
theorem RefP.below (h : RefP B vI inn vR R w) (hb : Below w.heap.size w w') : RefP B vI inn vR R w' := h.keep (S := fun _ => False) (ofBelow hb) (fun _ _ x => x)
theorem RefP.mono {B' : Nat} (h : RefP B vI inn vR R w) (hB : B' ≤ B) : RefP B' vI inn vR R w := ⟨own_mono h.i hB, own_mono h.r hB⟩
end
/-- A block of the reference's pools. -/
def X3 (q : Nat) (c : Array Value) (w : World) : Prop := w.heap[q]? = some (.cells c 35 (0, 0))
theorem X3.below {q : Nat} {c : Array Value} {w w' : World} (h : X3 q c w) (hb : Below w.heap.size w w') : X3 q c w' := (hb.block _ (lt_of_heap h)).trans h
theorem X3.alloc {q : Nat} {c : Array Value} {w : World} (h : X3 q c w) (o : Obj) : X3 q c (w.alloc o) := h.below ((Below.refl _ _).alloc (Nat.le_refl _) o)
theorem X3.lt {q : Nat} {c : Array Value} {w : World} (h : X3 q c w) : q < w.heap.size := lt_of_heap h
theorem X3.ty {q k : Nat} {c d : Array Value} {T : TypeId} {w : World} (h : X3 q c w) (hk : w.heap[k]? = some (.cells d T (0, 0))) (hT : 35 ≠ T) : q ≠ k := ty_ne hT h hk
theorem X3.ne {B n q size : Nat} {T : TypeId} {v : Value} {xs : List Value} {c : Array Value} {w : World} (h : X3 q c w) (hv : w.ownsRow B T size v n xs) (hT : 35 ≠ T) : v.ownBlock ≠ some q := by
  intro e
  obtain ⟨_, _, d, hd⟩ := own_blk hv e
  exact h.ty hd hT rfl
theorem X3.grown {q : Nat} {c : Array Value} {w w' : World} {B n size : Nat} {T : TypeId} {v : Value} {xs : List Value} (h : X3 q c w) (hv : w.ownsRow B T size v n xs) (hg : w.grownBy w' v.ownBlock) (hT : 35 ≠ T) : X3 q c w' :=
  (hg.block q h.lt (fun e => h.ne hv hT e.symm)).trans h
theorem X3.set {q k o : Nat} {c : Array Value} {w : World} (h : X3 q c w) (hk : q ≠ k) (u : Value) : X3 q c (w.setCell ⟨k, o, none⟩ u) := (Below.heap_setCell _ _ _ _ hk).trans h
theorem own_far {w : World} {B n k o size : Nat} {T : TypeId} {v : Value} {xs : List Value} (h : w.ownsRow B T size v n xs) (hk : v.ownBlock ≠ some k) (u : Value) : (w.setCell ⟨k, o, none⟩ u).ownsRow B T size v n xs :=
  own_keep h ((refl (fun j => j = k) w).setCell (p := ⟨k, o, none⟩) (fun _ => rfl) u) (fun j hj e => hk (e ▸ hj))
theorem cellsX {g : Nat} {c0 c1 c2 : Value} {w : World} (h : X3 g #[c0, c1, c2] w) :
    (w.cell? ⟨g, 0, none⟩ = some c0 ∧ w.cell? ⟨g, 1, none⟩ = some c1 ∧ w.cell? ⟨g, 2, none⟩ = some c2) ∧ ∀ i, w.frozen? ⟨g, i, none⟩ = false := cells3 h
theorem put3 {g : Nat} {c0 c1 c2 : Value} {w : World} (h : X3 g #[c0, c1, c2] w) (u0 u1 u2 : Value) :
    X3 g #[u0, u1, u2] (((w.setCell ⟨g, 0, none⟩ u0).setCell ⟨g, 1, none⟩ u1).setCell ⟨g, 2, none⟩ u2) := by
  unfold X3 at h ⊢
  simp [World.setCell, Array.getElem?_modify, h]
theorem set3_0 {g : Nat} {c0 c1 c2 : Value} {w : World} (h : X3 g #[c0, c1, c2] w) (u : Value) : X3 g #[u, c1, c2] (w.setCell ⟨g, 0, none⟩ u) := by
  unfold X3 at h ⊢
  simp [World.setCell, Array.getElem?_modify, h]
theorem set3_1 {g : Nat} {c0 c1 c2 : Value} {w : World} (h : X3 g #[c0, c1, c2] w) (u : Value) : X3 g #[c0, u, c2] (w.setCell ⟨g, 1, none⟩ u) := by
  unfold X3 at h ⊢
  simp [World.setCell, Array.getElem?_modify, h]
theorem set3_2 {g : Nat} {c0 c1 c2 : Value} {w : World} (h : X3 g #[c0, c1, c2] w) (u : Value) : X3 g #[c0, c1, u] (w.setCell ⟨g, 2, none⟩ u) := by
  unfold X3 at h ⊢
  simp [World.setCell, Array.getElem?_modify, h]
theorem end3 {w w3 : World} {g B : Nat} {c0 c1 c2 : Value} (h : X3 g #[c0, c1, c2] w3) (hb : Below B w w3) (hg : B ≤ g) (u0 u1 u2 : Value) :
    ∃ w4, w4 = (((w3.setCell ⟨g, 0, none⟩ u0).setCell ⟨g, 1, none⟩ u1).setCell ⟨g, 2, none⟩ u2) ∧
      (w4.cell? ⟨g, 0, none⟩ = some u0 ∧ w4.cell? ⟨g, 1, none⟩ = some u1 ∧ w4.cell? ⟨g, 2, none⟩ = some u2) ∧ Below B w w4 ∧ Only (fun k => k = g) w3 w4 := by
  have hp := put3 h u0 u1 u2
  exact ⟨_, rfl, (cellsX hp).1, ((hb.setCell (p := ⟨g, 0, none⟩) hg _).setCell (p := ⟨g, 1, none⟩) hg _).setCell (p := ⟨g, 2, none⟩) hg _,
    (((refl (fun k => k = g) w3).setCell (p := ⟨g, 0, none⟩) (fun _ => rfl) _).setCell (p := ⟨g, 1, none⟩) (fun _ => rfl) _).setCell (p := ⟨g, 2, none⟩) (fun _ => rfl) _⟩
def z3 : Array Value := #[.slice none 0 0, .int .i64 0, .slice none 0 0]
/-- Two boxes: the argument's, the result's. -/
theorem two3 (w : World) (c : Array Value) (vI vR : Value) : ∃ w1, w1 = ((w.alloc (.cells c 35)).alloc (.cells #[.slice none 0 0, .int .i64 0, .slice none 0 0] 35)) ∧ X3 w.heap.size c w1 ∧ X3 (w.heap.size + 1) #[.slice none 0 0, .int .i64 0, .slice none 0 0] w1 ∧ Below w.heap.size w w1 ∧ w.heap.size + 2 ≤ w1.heap.size := by
  refine ⟨_, rfl, X3.alloc (heap_alloc_new w _) _, ?_, ((Below.refl _ _).alloc (Nat.le_refl _) _).alloc (by simp) _, by simp⟩
  have := heap_alloc_new (w.alloc (.cells c 35)) (.cells #[.slice none 0 0, .int .i64 0, .slice none 0 0] 35)
  rw [show (w.alloc (.cells c 35)).heap.size = w.heap.size + 1 by simp] at this
  exact this
theorem RefP.keepX {B q : Nat} {vI vR : Value} {inn : List Int} {R : List (Int × Int)} {c : Array Value} {w w' : World} (h : RefP B vI inn vR R w) (hx : X3 q c w) (ho : Only (fun k => k = q) w w') : RefP B vI inn vR R w' := by
  refine h.keep ho (fun k hk e => ?_)
  subst e
  rcases hk with e | e
  · exact hx.ne h.i (by decide) e
  · exact hx.ne h.r (by decide) e
def OwnP (vI vR : Value) (k : Nat) : Prop := vI.ownBlock = some k ∨ vR.ownBlock = some k
/-- What a turned reference leaves. -/
def RTo (B : Nat) (uI uR : Value) (inn : List Int) (ep : Int) (R : List (Int × Int)) (ans : List Value) (w : World) (e : Ending) (w' : World) : Prop :=
  ∃ vI vR, e = .returned (.tuple ((Value.agg (xv vI ep vR) :: ans).toArray)) ∧ RefP B vI inn vR R w' ∧ Below w.heap.size w w' ∧ ∀ k, OwnP vI vR k → OwnP uI uR k ∨ w.heap.size ≤ k
def renterI (inn : List Int) (ep t : Int) : List Int := if thereP inn t = true ∧ inAt inn t < 0 then inn.set t.toNat ep else inn
def renterE (inn : List Int) (t : Int) : Int := if thereP inn t = true then (if inAt inn t < 0 then 0 else 8) else 1
def rexitI (inn : List Int) (t : Int) : List Int := if thereP inn t = true ∧ 0 ≤ inAt inn t then inn.set t.toNat (-1) else inn
def rexitE (inn : List Int) (t : Int) : Int := if thereP inn t = true then (if 0 ≤ inAt inn t then 0 else 4) else 1
end Go.Proofs.Ytecjkpjcmgohmac.EpRef
