/- Calls that are turned one by one; what a set is behind some. -/
import Derived.Test.YtecjkpjcmgohmabOrKit
namespace Go.Proofs.Ytecjkpjcmgohmab.Or
open Go Go.RowKit Go.Maps Go.Proofs.Ytecjkpjcmgohmab.Only Go.Proofs.Ytecjkpjcmgohmab.Pu
set_option linter.unusedVariables false
set_option linter.unusedSimpArgs false

/-! A set behind the first calls. -/
def setI (zs : List ByteArray) (l : List C) (i : Nat) : List ByteArray := (l.take i).foldl (fun s c => (doR s c).1) zs
theorem setI_succ (zs : List ByteArray) {l : List C} {i : Nat} (hi : i < l.length) : setI zs l (i + 1) = (doR (setI zs l i) (at' l i)).1 := by
  unfold setI
  rw [take_snoc hi, List.foldl_append]
  rfl
theorem doR_len (s : List ByteArray) (c : C) : (doR s c).1.length ≤ s.length + 1 := by
  have := List.length_filter_le (fun k => decide (k ≠ c.key)) s
  unfold doR
  split
  · simp
  · split
    · simp only; omega
    · simp only [List.length_append, List.length_cons, List.length_nil]; omega
theorem setI_len (zs : List ByteArray) (l : List C) : ∀ i, i ≤ l.length → (setI zs l i).length ≤ zs.length + i := by
  intro i
  induction i with
  | zero => intro _; unfold setI; simp
  | succ i ih =>
    intro h
    rw [setI_succ zs (by omega)]
    have := doR_len (setI zs l i) (at' l i)
    have := ih (by omega)
    omega
theorem doR_congr (s : List ByteArray) {a b : C} (h1 : a.kind = b.kind) (h2 : a.key = b.key) : doR s a = doR s b := by unfold doR; rw [h1, h2]
theorem setI_congr (zs : List ByteArray) {X l : List C} (hl : X.length = l.length) (h : ∀ j, j < l.length → (at' X j).kind = (at' l j).kind ∧ (at' X j).key = (at' l j).key) : ∀ i, i ≤ l.length → setI zs X i = setI zs l i := by
  intro i
  induction i with
  | zero => intro _; rfl
  | succ i ih =>
    intro hi
    rw [setI_succ zs (by omega), setI_succ zs (by omega), ih (by omega), doR_congr _ (h i (by omega)).1 (h i (by omega)).2]
theorem rn_all (X : List C) : ∀ zs, rn doR zs X ↔ ∀ j, j < X.length → opn (at' X j) = true ∨ (doR (setI zs X j) (at' X j)).2 = (at' X j).ok := by
  induction X with
  | nil => intro zs; exact ⟨fun _ j hj => by simp at hj, fun _ => trivial⟩
  | cons c X ih =>
    intro zs
    rw [rn_cons, ih]
    constructor
    · rintro ⟨h1, h2⟩ j hj
      cases j with
      | zero => exact h1
      | succ j => exact h2 j (by simpa using hj)
    · intro h
      exact ⟨h 0 (by simp), fun j hj => h (j + 1) (by simpa using hj)⟩
theorem pair_at {X : List C} {R : C → C → Prop} (h : ∀ i j, i < j → j < X.length → R (at' X i) (at' X j)) : X.Pairwise R := by
  rw [List.pairwise_iff_getElem]
  intro i j hi hj hij
  have := h i j hij hj
  unfold at' at this
  rw [List.getD_eq_getElem?_getD, List.getElem?_eq_getElem hi, List.getD_eq_getElem?_getD, List.getElem?_eq_getElem hj] at this
  exact this
theorem all_at {X : List C} {p : C → Prop} (h : ∀ j, j < X.length → p (at' X j)) : ∀ c ∈ X, p c := by
  intro c hc
  obtain ⟨j, hj, e⟩ := List.mem_iff_getElem.1 hc
  have := h j hj
  unfold at' at this
  rw [List.getD_eq_getElem?_getD, List.getElem?_eq_getElem hj] at this
  rw [← e]; exact this
theorem perm_turn {X : List C} : ∀ {s : List C}, s.Perm X → X.Pairwise (fun a b => ahd a b = true) → s.Pairwise (fun c d => ahd d c = false) → s = X := by
  induction X with
  | nil => intro s h _ _; exact h.eq_nil
  | cons a X ih =>
    intro s h hX hs
    obtain ⟨h1, h2⟩ := List.pairwise_cons.1 hX
    match s, h, hs with
    | [], h, _ => exact absurd h.symm.eq_nil (by simp)
    | b :: s, h, hs =>
      obtain ⟨h3, h4⟩ := List.pairwise_cons.1 hs
      have hab : b = a := by
        rcases List.mem_cons.1 (h.mem_iff.1 List.mem_cons_self) with e | hb
        · exact e
        · rcases List.mem_cons.1 (h.mem_iff.2 List.mem_cons_self) with e | ha
          · exact e.symm
          · have q1 := h1 b hb
            have q2 := h3 a ha
            rw [q1] at q2; cases q2
      subst hab
      rw [ih h.cons_inv h2 h4]
/-- Calls each ahead of the next: in their own turn alone. -/
theorem lin_turn {zs : List ByteArray} {X : List C} (hc : ∀ c ∈ X, opn c = false) (hX : X.Pairwise (fun a b => ahd a b = true)) (hX2 : X.Pairwise (fun a b => ahd b a = false)) : Lin doR zs X ↔ rn doR zs X := by
  constructor
  · rintro ⟨s, r, h1, h2, h3, h4⟩
    have hr : r = [] := by
      cases r with
      | nil => rfl
      | cons c r =>
        have q1 := h2 c List.mem_cons_self
        have q2 := hc c (h1.mem_iff.1 (List.mem_append_right _ List.mem_cons_self))
        rw [q1] at q2; cases q2
    subst hr
    rw [List.append_nil] at h1
    rw [← perm_turn h1 hX h3]; exact h4
  · intro h
    exact ⟨X, [], by rw [List.append_nil], fun c hc => by simp at hc, hX2, h⟩
theorem fit_lin {zs : List ByteArray} {X : List C} (hl : X.length ≤ 12) (hv : ∀ c ∈ X, ahd c c = false) : fitsB zs X = true ↔ Lin doR zs X := by
  rw [fitsB_iff, lin_local hv]
  exact ⟨fun h => h.2.2, fun h => ⟨hl, hv, h⟩⟩

/-! Calls that are turned one by one. -/
structure Mod (f : Nat → C → C) (l : List C) (i : Nat) (X : List C) : Prop where
  len : X.length = l.length
  at' : ∀ j, j < l.length → at' X j = if j < i then f j (Pu.at' l j) else Pu.at' l j
theorem Mod.new (f : Nat → C → C) (l : List C) : Mod f l 0 l := ⟨rfl, fun j _ => rfl⟩
theorem at_set {X : List C} {i : Nat} (hi : i < X.length) (c : C) (j : Nat) : Pu.at' (X.set i c) j = if j = i then c else Pu.at' X j := by
  unfold Pu.at'
  rw [List.getD_eq_getElem?_getD, List.getD_eq_getElem?_getD, List.getElem?_set]
  by_cases e : i = j
  · subst e; simp [hi]
  · rw [if_neg e, if_neg (fun q => e q.symm)]
theorem Mod.step {f : Nat → C → C} {l X : List C} {i : Nat} (h : Mod f l i X) (hi : i < l.length) : Mod f l (i + 1) (X.set i (f i (Pu.at' l i))) := by
  refine ⟨by rw [List.length_set]; exact h.len, fun j hj => ?_⟩
  rw [at_set (by rw [h.len]; exact hi)]
  by_cases e : j = i
  · subst e; rw [if_pos rfl, if_pos (by omega)]
  · rw [if_neg e, h.at' j hj]
    by_cases q : j < i
    · rw [if_pos q, if_pos (by omega)]
    · rw [if_neg q, if_neg (by omega)]
theorem Mod.cur {f : Nat → C → C} {l X : List C} {i : Nat} (h : Mod f l i X) (hi : i < l.length) : Pu.at' X i = Pu.at' l i := by
  rw [h.at' i hi, if_neg (by omega)]
theorem Mod.done {f : Nat → C → C} {l X : List C} (h : Mod f l l.length X) {j : Nat} (hj : j < l.length) : Pu.at' X j = f j (Pu.at' l j) := by
  rw [h.at' j hj, if_pos hj]
theorem flat_set (X : List C) : ∀ (i : Nat) (c : C) (j : Nat) (u : Value), i < X.length → j < 5 → cel c = (cel (Pu.at' X i)).set j u → flat (X.set i c) = (flat X).set (i * 5 + j) u := by
  induction X with
  | nil => intro i c j u h; simp at h
  | cons d X ih =>
    intro i c j u hi hj h
    cases i with
    | zero =>
      show cel c ++ flat X = (cel d ++ flat X).set (0 * 5 + j) u
      rw [h, List.set_append_left _ _ (by rw [cel_len]; omega), Nat.zero_mul, Nat.zero_add]
      rfl
    | succ i =>
      show cel d ++ flat (X.set i c) = (cel d ++ flat X).set ((i + 1) * 5 + j) u
      rw [List.set_append_right _ _ (by rw [cel_len]; omega), cel_len, ih i c j u (by simpa using hi) hj h, show (i + 1) * 5 + j - 5 = i * 5 + j by omega]
/-- A call's cell turned. -/
theorem own_set5 {w : World} {B g cap : Nat} {X : List C} {n : Nat} (hn : n = X.length) (h : Own w B (.slice (some ⟨g, 0, none⟩) n cap) X) {i : Nat} (hi : i < X.length) (c : C) (j : Nat) (u : Value) (hj : j < 5) (hc : cel c = (cel (Pu.at' X i)).set j u) :
    Own (w.setCell ⟨g, i * 5 + j, none⟩ u) B (.slice (some ⟨g, 0, none⟩) n cap) (X.set i c) := by
  obtain ⟨hl, h2⟩ := h
  unfold Own
  rw [List.length_set, flat_set X i c j u hi hj hc]
  refine ⟨by simpa using hl, .inr ?_⟩
  rcases h2 with ⟨hv, _⟩ | ⟨g', cap', cur, hv, hB, hg, hn, hm, hz, hx⟩
  · cases hv
  · cases hv
    refine ⟨g, cap, cur.setIfInBounds (i * 5 + j) u, rfl, hB, ?_, hn, hm, by simpa using hz, ?_⟩
    · simp [World.setCell, Array.getElem?_modify, hg]
    · rw [Array.toList_setIfInBounds, ← hx]
      simp [List.take_set]
theorem own_frozen {w : World} {B g n cap : Nat} {X : List C} (h : Own w B (.slice (some ⟨g, 0, none⟩) n cap) X) (o : Nat) : w.frozen? ⟨g, o, none⟩ = false := by
  rcases h.2 with ⟨hv, _⟩ | ⟨g', cap', cur, hv, hB, hg, _⟩
  · cases hv
  · cases hv
    simp [World.frozen?, hg]
theorem cell_set_ne {w : World} {a b : Addr} (u : Value) (h : a ≠ b) : (w.setCell a u).cell? b = w.cell? b := Go.World.cell?_setCell_other w a b u h
theorem Strs.setCell {w : World} {v : Value} {zs : List ByteArray} (h : Strs w v zs) {a : Addr} (ha : ∀ s, w.cell? a ≠ some (.string s)) (u : Value) : Strs (w.setCell a u) v zs := by
  obtain ⟨b, cap, hv, hl, hx⟩ := h.shape
  refine ⟨b, cap, hv, hl, fun i hi => ?_⟩
  obtain ⟨g, o, hb, hg, hc⟩ := hx i hi
  refine ⟨g, o, hb, by simpa [World.setCell] using hg, ?_⟩
  rw [cell_set_ne u (fun e => ha _ (by rw [e]; exact hc))]
  exact hc
theorem below_set {B : Nat} {w W : World} (h : Below B w W) {a : Addr} (ha : B ≤ a.block) (u : Value) : Below B w (W.setCell a u) :=
  ⟨h.os, h.tape, h.output, by have := h.size; simpa [World.setCell] using this, fun k hk => (Below.heap_setCell W a u k (by omega)).trans (h.block k hk)⟩
end Go.Proofs.Ytecjkpjcmgohmab.Or
