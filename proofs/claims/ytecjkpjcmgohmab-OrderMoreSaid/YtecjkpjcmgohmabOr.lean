/- Calls in memory; Ahead, does. -/
import Derived.Test.YtecjkpjcmgohmabOnly
import Derived.Test.YtecjkpjcmgohmabPu
import Derived.Test.YtecjkpjcmgohmabProg
import Derived.Test.YtecjkpjcmgohmabShelf
import Derived.Maps.OwnSet
import Derived.Maps.OwnOps
import Derived.Maps.RangeWalk
import Derived.Maps.AppendAt
import Derived.Laws.AppendOwnNone
import Derived.DeepKeys4
import Derived.Lib.Hide
import Derived.LoopTactic
namespace Go.Proofs.Ytecjkpjcmgohmab.Or
open Go Go.RowKit Go.Maps Go.Proofs.Ytecjkpjcmgohmab.Only Go.Proofs.Ytecjkpjcmgohmab.Pu
set_option linter.unusedVariables false
set_option linter.unusedSimpArgs false

/-! Rows of one's own. -/
theorem own_blk {w : World} {B : Nat} {T : TypeId} {size m : Nat} {u : Value} {xs : List Value} (h : w.ownsRow B T size u m xs) {k : Nat} (hk : u.ownBlock = some k) : B ≤ k ∧ k < w.heap.size ∧ ∃ cs, w.heap[k]? = some (.cells cs T (0, 0)) := by
  rcases h.2 with ⟨rfl, -⟩ | ⟨g, cap, cur, rfl, hb, hc, -⟩
  · simp [Value.ownBlock] at hk
  · simp [Value.ownBlock] at hk
    subst hk
    exact ⟨hb, lt_of_heap hc, _, hc⟩
theorem own_keep {S : Nat → Prop} {w : World} {B : Nat} {T : TypeId} {size m : Nat} {u : Value} {xs : List Value} {w' : World} (h : w.ownsRow B T size u m xs) (ho : Only S w w') (hS : ∀ k, u.ownBlock = some k → ¬ S k) : w'.ownsRow B T size u m xs := by
  refine ⟨h.1, ?_⟩
  rcases h.2 with ⟨rfl, e⟩ | ⟨g, cap, cur, rfl, hb, hc, r⟩
  · exact .inl ⟨rfl, e⟩
  · exact .inr ⟨g, cap, cur, rfl, hb, (ho.block g (lt_of_heap hc) (hS g rfl)).trans hc, r⟩
theorem own_below {w : World} {B : Nat} {T : TypeId} {size m : Nat} {u : Value} {xs : List Value} {w' : World} (h : w.ownsRow B T size u m xs) (hb : Below w.heap.size w w') : w'.ownsRow B T size u m xs :=
  own_keep h (ofBelow (S := fun _ => False) hb) (fun _ _ x => x)
theorem own_mono {w : World} {B B' : Nat} {T : TypeId} {size n : Nat} {v : Value} {xs : List Value} (h : w.ownsRow B T size v n xs) (hB : B' ≤ B) : w.ownsRow B' T size v n xs := by
  refine ⟨h.1, ?_⟩
  rcases h.2 with ⟨rfl, e⟩ | ⟨g, cap, cur, rfl, hb, r⟩
  · exact .inl ⟨rfl, e⟩
  · exact .inr ⟨g, cap, cur, rfl, Nat.le_trans hB hb, r⟩
theorem own_grown {w w' : World} {B n : Nat} {T : TypeId} {size : Nat} {v : Value} {xs : List Value} {row : Option Nat} (h : w.ownsRow B T size v n xs) (hg : w.grownBy w' row) (hne : ∀ k, v.ownBlock = some k → row ≠ some k) : w'.ownsRow B T size v n xs := by
  refine ⟨h.1, ?_⟩
  rcases h.2 with ⟨rfl, e⟩ | ⟨g, cap, cur, rfl, hb, hc, r⟩
  · exact .inl ⟨rfl, e⟩
  · exact .inr ⟨g, cap, cur, rfl, hb, (hg.block g (lt_of_heap hc) (fun e => hne g rfl e.symm)).trans hc, r⟩
theorem below_drew {B : Nat} {w W : World} (h : Below B w W) : Below B w W.drew := ⟨h.os, h.tape, h.output, h.size, h.block⟩
theorem below_drewN {B : Nat} {w W : World} (h : Below B w W) (q : Nat) : Below B w (W.drewN q) := ⟨h.os, h.tape, h.output, h.size, h.block⟩

/-! A call's cells. -/
def cel (c : C) : List Value := [.int .i64 c.kind, .string c.key, .bool c.ok, .int .i64 c.inv, .int .i64 c.ret]
def V (c : C) : Value := .agg #[.int .i64 c.kind, .string c.key, .bool c.ok, .int .i64 c.inv, .int .i64 c.ret]
theorem cel_len (c : C) : (cel c).length = 5 := rfl
def flat : List C → List Value
  | [] => []
  | c :: l => cel c ++ flat l
theorem flat_len (l : List C) : (flat l).length = l.length * 5 := by
  induction l with
  | nil => rfl
  | cons c l ih => unfold flat; rw [List.length_append, ih, cel_len, List.length_cons]; omega
theorem flat_append (a b : List C) : flat (a ++ b) = flat a ++ flat b := by
  induction a with
  | nil => rfl
  | cons c a ih =>
    show cel c ++ flat (a ++ b) = (cel c ++ flat a) ++ flat b
    rw [ih, List.append_assoc]
theorem flat_at (l : List C) : ∀ (i j : Nat), i < l.length → j < 5 → (flat l)[i * 5 + j]? = (cel (at' l i))[j]? := by
  induction l with
  | nil => intro i j h; simp at h
  | cons c l ih =>
    intro i j h hj
    unfold flat
    match i with
    | 0 =>
      rw [Nat.zero_mul, Nat.zero_add, List.getElem?_append_left (by rw [cel_len]; exact hj)]
      rfl
    | i + 1 =>
      rw [List.getElem?_append_right (by rw [cel_len]; omega), cel_len, show (i + 1) * 5 + j - 5 = i * 5 + j by omega, ih i j (by simpa using h) hj]
      rfl
/-- At an address lies a call. -/
structure CellsC (w : World) (g o : Nat) (c : C) : Prop where
  c0 : w.cell? ⟨g, o, none⟩ = some (.int .i64 c.kind)
  c1 : w.cell? ⟨g, o + 1, none⟩ = some (.string c.key)
  c2 : w.cell? ⟨g, o + 2, none⟩ = some (.bool c.ok)
  c3 : w.cell? ⟨g, o + 3, none⟩ = some (.int .i64 c.inv)
  c4 : w.cell? ⟨g, o + 4, none⟩ = some (.int .i64 c.ret)
/-- A slice of calls of one's own. -/
def Own (w : World) (B : Nat) (v : Value) (l : List C) : Prop := w.ownsRow B 29 5 v l.length (flat l)
theorem own_cells {w : World} {B : Nat} {v : Value} {l : List C} (h : Own w B v l) {i : Nat} (hi : i < l.length) :
    ∃ g cap, v = .slice (some ⟨g, 0, none⟩) l.length cap ∧ B ≤ g ∧ g < w.heap.size ∧ CellsC w g (i * 5) (at' l i) := by
  rcases h.2 with ⟨-, h0⟩ | ⟨g, cap, cur, hv, hB, hg, hc, hm, hz, hx⟩
  · omega
  · refine ⟨g, cap, hv, hB, lt_of_heap hg, ?_⟩
    have key : ∀ j v, (cel (at' l i))[j]? = some v → w.cell? ⟨g, i * 5 + j, none⟩ = some v := fun j v hj => by
      have hj5 : j < 5 := (List.getElem?_eq_some_iff.1 hj).1
      rw [← flat_at l i j hi hj5, ← hx, List.getElem?_take_of_lt (by omega)] at hj
      simp only [World.cell?, hg]
      rw [← Array.getElem?_toList]
      exact hj
    exact ⟨key 0 _ rfl, key 1 _ rfl, key 2 _ rfl, key 3 _ rfl, key 4 _ rfl⟩
theorem own_any {w : World} {B : Nat} {v : Value} {l : List C} (h : Own w B v l) : ∃ a cap, v = .slice a l.length cap ∧ l.length ≤ cap ∧ cap ≤ maxLen := by
  rcases h.2 with ⟨hv, h0⟩ | ⟨g, cap, cur, hv, hB, hg, hc, hm, _⟩
  · exact ⟨none, 0, by rw [hv, h0], by omega, by simp [maxLen]⟩
  · exact ⟨_, cap, hv, hc, hm⟩
theorem own_nil (w : World) (B : Nat) : Own w B (.slice none 0 0) [] := ⟨rfl, .inl ⟨rfl, rfl⟩⟩
theorem own_new (w : World) (B : Nat) (l : List C) (hB : B ≤ w.heap.size) (hl : l.length ≤ maxLen) : Own (w.alloc (.cells (flat l).toArray 29)) B (.slice (some ⟨w.heap.size, 0, none⟩) l.length l.length) l :=
  ⟨flat_len l, .inr ⟨w.heap.size, l.length, (flat l).toArray, rfl, hB, heap_alloc_new w _, Nat.le_refl _, hl, by simp [flat_len], by simp [← flat_len]⟩⟩

set_option maxRecDepth 100000 in
/-- Ahead. -/
theorem aheadC (a b : C) (w : World) : Calls Try.prog 11 #[V a, V b] w fun e w' => e = .returned (.bool (ahd a b)) ∧ Below w.heap.size w w' := by
  unfold ahd V
  by_cases h0 : 0 ≤ a.ret
  · have b0 : decide (0 ≤ a.ret) = true := decide_eq_true h0
    rw [b0, Bool.true_and]
    generalize hb1 : decide (a.ret < b.inv) = b1
    go_enter Try.func11, Try.ntmps11
    go_wp2
    go_ret
    exact ⟨by first | rfl | (rw [← hb1]), (((Below.refl _ _).alloc (Nat.le_refl _) _).alloc (by simp) _)⟩
  · have b0 : decide (0 ≤ a.ret) = false := decide_eq_false h0
    rw [b0, Bool.false_and]
    go_enter Try.func11, Try.ntmps11
    go_wp2
    go_ret
    exact ⟨rfl, (((Below.refl _ _).alloc (Nat.le_refl _) _).alloc (by simp) _)⟩
set_option maxRecDepth 100000 in
theorem doesC (c : C) (b : Bool) (w : World) : Calls Try.prog 24 #[V c, .bool b] w fun e w' => e = .returned (.tuple #[.bool (does b c).1, .bool (does b c).2]) ∧ Below w.heap.size w w' := by
  unfold does V
  by_cases h1 : c.kind = 1
  · have b1 : (c.kind == 1) = true := by simp [h1]
    rw [if_pos h1]
    clear h1
    go_enter Try.func24, Try.ntmps24
    go_wp2
    go_ret2
    exact ⟨rfl, ((Below.refl _ _).alloc (Nat.le_refl _) _)⟩
  · have b1 : (c.kind == 1) = false := by simp [h1]
    rw [if_neg h1]
    by_cases h2 : c.kind = 2
    · have b2 : (c.kind == 2) = true := by simp [h2]
      rw [if_pos h2]
      clear h1 h2
      go_enter Try.func24, Try.ntmps24
      go_wp2
      go_ret2
      exact ⟨rfl, ((Below.refl _ _).alloc (Nat.le_refl _) _)⟩
    · have b2 : (c.kind == 2) = false := by simp [h2]
      rw [if_neg h2]
      clear h1 h2
      go_enter Try.func24, Try.ntmps24
      go_wp2
      go_ret2
      exact ⟨rfl, ((Below.refl _ _).alloc (Nat.le_refl _) _)⟩
end Go.Proofs.Ytecjkpjcmgohmab.Or
