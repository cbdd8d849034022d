/- The cells of package mem: what each of its functions does to a Mem that is known cell by cell. -/
import Derived.Test.YtllibgjajlgnbaaProg
import Derived.Test.YtllibgjajlgnbaaOnly
import Derived.WalkKit
import Derived.Maps.AppendAt
import Derived.OwnWalk
import Derived.Lib.Hide
import Derived.Deep.OwnRows
import Derived.Laws.MakeOwn
import Derived.Outline
namespace Go.Proofs.Ytllibgjajlgnbaa.Mem
open Go Go.RowKit Go.Proofs.Ytllibgjajlgnbaa.Only
set_option linter.unusedVariables false
set_option linter.unusedSimpArgs false

/-- A Mem at block p: its slice is v, its cells C, and it was asked n times. -/
structure MemAt (B p : Nat) (v : Value) (C : List Int) (n : Int) (w : World) : Prop where
  base : B ≤ p
  blk : w.heap[p]? = some (.cells #[v, .int .i64 n] 80 (0, 0))
  own : w.ownsRow B 26 1 v C.length (C.map (Value.int .u64))
  ne : v.ownBlock ≠ some p

/-- The blocks of a Mem. -/
def Foot (p : Nat) (v : Value) (k : Nat) : Prop := k = p ∨ v.ownBlock = some k

/-- Is there a cell? -/
def inR (C : List Int) (a : Int) : Bool := decide (0 ≤ a ∧ a < C.length)
def rdAt (C : List Int) (a : Int) : Int := if inR C a then C.getD a.toNat 0 else 0
def errAt (C : List Int) (a : Int) : Int := if inR C a then 0 else 1
def hit (C : List Int) (a : Int) : Int := if inR C a then 1 else 0
def setAt (C : List Int) (a x : Int) : List Int := if inR C a then C.set a.toNat x else C
theorem inR_true {C : List Int} {a : Int} : inR C a = true ↔ 0 ≤ a ∧ a < C.length := by unfold inR; simp
theorem inR_false {C : List Int} {a : Int} : inR C a = false ↔ ¬ (0 ≤ a ∧ a < C.length) := by unfold inR; simp
theorem setAt_length (C : List Int) (a x : Int) : (setAt C a x).length = C.length := by unfold setAt; split <;> simp

section
variable {B p : Nat} {v : Value} {C : List Int} {n : Int} {w : World}

theorem MemAt.lt (h : MemAt B p v C n w) : p < w.heap.size := lt_of_heap h.blk
theorem MemAt.c0 (h : MemAt B p v C n w) : w.cell? ⟨p, 0, none⟩ = some v := by simp [World.cell?, h.blk]
theorem MemAt.c1 (h : MemAt B p v C n w) : w.cell? ⟨p, 1, none⟩ = some (.int .i64 n) := by simp [World.cell?, h.blk]
theorem MemAt.f0 (h : MemAt B p v C n w) : w.frozen? ⟨p, 0, none⟩ = false := by simp [World.frozen?, h.blk]
theorem MemAt.f1 (h : MemAt B p v C n w) : w.frozen? ⟨p, 1, none⟩ = false := by simp [World.frozen?, h.blk]

/-- The count set. -/
theorem MemAt.count (h : MemAt B p v C n w) (m : Int) : MemAt B p v C m (w.setCell ⟨p, 1, none⟩ (.int .i64 m)) := by
  refine ⟨h.base, ?_, ?_, h.ne⟩
  · simp [World.setCell, Array.getElem?_modify, h.blk]
  · exact h.own.kept (row := some p) ⟨rfl, rfl, rfl, by simp [World.setCell], fun k _ hk => Below.heap_setCell _ _ _ _ (fun e => hk (by simp [e]))⟩ (.inr h.ne)

/-- A cell set. -/
theorem MemAt.put (h : MemAt B p v C n w) {g cap : Nat} (hv : v = .slice (some ⟨g, 0, none⟩) C.length cap) (i : Nat) (hi : i < C.length) (x : Int) : MemAt B p v (C.set i x) n (w.setCell ⟨g, i, none⟩ (.int .u64 x)) := by
  subst hv
  have hg : g ≠ p := fun e => h.ne (by rw [e]; rfl)
  refine ⟨h.base, ?_, ?_, h.ne⟩
  · rw [Below.heap_setCell _ _ _ _ (fun e => hg e.symm)]; exact h.blk
  · have := own_set h.own i hi (.int .u64 x)
    rw [← List.map_set] at this
    simpa using this

/-- A Mem stays where its blocks do. -/
theorem MemAt.keep {S : Nat → Prop} {w' : World} (h : MemAt B p v C n w) (ho : Only S w w') (hp : ¬ S p) (hv : ∀ k, v.ownBlock = some k → ¬ S k) : MemAt B p v C n w' := by
  refine ⟨h.base, by rw [ho.block p h.lt hp]; exact h.blk, ?_, h.ne⟩
  obtain ⟨h1, h2⟩ := h.own
  refine ⟨h1, ?_⟩
  rcases h2 with h2 | ⟨g, cap, cur, hg, hB, hgg, r⟩
  · exact .inl h2
  · exact .inr ⟨g, cap, cur, hg, hB, by rw [ho.block g (lt_of_heap hgg) (hv g (by rw [hg]; rfl))]; exact hgg, r⟩
theorem MemAt.below {w' : World} (h : MemAt B p v C n w) (hb : Below w.heap.size w w') : MemAt B p v C n w' :=
  h.keep (S := fun _ => False) (ofBelow hb) (fun x => x) (fun _ _ x => x)

set_option maxHeartbeats 1000000 in
set_option maxRecDepth 100000 in
theorem at_in (h : MemAt B p v C n w) {g cap : Nat} (hv : v = .slice (some ⟨g, 0, none⟩) C.length cap) (a : Nat) (ha : a < C.length) (hn : 0 ≤ n ∧ n < 4611686018427387904) :
    Calls Try.prog 39 #[.pointer (some ⟨p, 0, none⟩), .int .i64 a] w fun e w' => e = .returned (.pointer (some ⟨g, a, none⟩)) ∧ w' = w.setCell ⟨p, 1, none⟩ (.int .i64 (n + 1)) := by
  have c0 := h.c0
  have c1 := h.c1
  have f1 := h.f1
  have hl : C.length ≤ maxLen := by
    rcases h.own.2 with ⟨_, h0⟩ | ⟨g', cap', cur, _, _, _, h3, h4, _⟩ <;> omega
  unfold maxLen at hl
  subst hv
  have b1 : decide ((a : Int) < 0) = false := by simp
  have b2 : decide ((C.length : Int) ≤ (a : Int)) = false := by simp; omega
  clear h
  go_enter Try.func39, Try.ntmps39
  go_wp2
  go_ret
  exact ⟨rfl, rfl⟩

set_option maxHeartbeats 1000000 in
set_option maxRecDepth 100000 in
theorem at_out (h : MemAt B p v C n w) (a : Int) (ha : -9223372036854775808 ≤ a ∧ a ≤ 9223372036854775807) (ho : ¬ (0 ≤ a ∧ a < C.length)) :
    Calls Try.prog 39 #[.pointer (some ⟨p, 0, none⟩), .int .i64 a] w fun e w' => e = .returned (.pointer none) ∧ w = w' := by
  have c0 := h.c0
  obtain ⟨ad, cap, hv, hc⟩ := own_any h.own
  subst hv
  clear h
  by_cases h0 : a < 0
  · have b1 : decide (a < 0) = true := by simpa using h0
    go_enter Try.func39, Try.ntmps39
    go_wp2
    go_ret
    exact ⟨rfl, rfl⟩
  · have b1 : decide (a < 0) = false := by simpa using h0
    have b2 : (C.length : Int) ≤ a := by omega
    have b3 : decide ((C.length : Int) ≤ a) = true := by simpa using b2
    go_enter Try.func39, Try.ntmps39
    go_wp2
    go_ret
    exact ⟨rfl, rfl⟩

/-- In range: what stands there. -/
theorem MemAt.shape (h : MemAt B p v C n w) {a : Int} (ha : inR C a = true) : ∃ g cap i, a = ((i : Nat) : Int) ∧ i < C.length ∧ v = .slice (some ⟨g, 0, none⟩) C.length cap ∧ B ≤ g ∧ g < w.heap.size ∧ g ≠ p ∧ w.cell? ⟨g, i, none⟩ = some (.int .u64 (C.getD i 0)) ∧ w.frozen? ⟨g, i, none⟩ = false := by
  obtain ⟨h0, h1⟩ := inR_true.1 ha
  obtain ⟨i, rfl⟩ := Int.eq_ofNat_of_zero_le h0
  have hi : i < C.length := by omega
  obtain ⟨g, cap, hv, hB, hc, hm, hg, hx, hf⟩ := own_shape h.own (by omega)
  refine ⟨g, cap, i, rfl, hi, hv, hB, hg, fun e => h.ne (by rw [hv, e]; rfl), ?_, hf i⟩
  rw [hx i hi]
  simp [List.getD, hi]

theorem getD_range {C : List Int} (hC : ∀ x ∈ C, 0 ≤ x ∧ x ≤ 18446744073709551615) (i : Nat) : 0 ≤ C.getD i 0 ∧ C.getD i 0 ≤ 18446744073709551615 := by
  by_cases h : i < C.length
  · have e : C.getD i 0 = C[i] := by simp [List.getD, h]
    rw [e]; exact hC _ (List.getElem_mem h)
  · have e : C.getD i 0 = 0 := by simp [List.getD, Nat.not_lt.1 h]
    rw [e]; omega
theorem rdAt_range {C : List Int} (hC : ∀ x ∈ C, 0 ≤ x ∧ x ≤ 18446744073709551615) (a : Int) : 0 ≤ rdAt C a ∧ rdAt C a ≤ 18446744073709551615 := by
  unfold rdAt; split
  · exact getD_range hC _
  · omega
theorem setAt_range {C : List Int} (hC : ∀ x ∈ C, 0 ≤ x ∧ x ≤ 18446744073709551615) (a x : Int) (hx : 0 ≤ x ∧ x ≤ 18446744073709551615) : ∀ y ∈ setAt C a x, 0 ≤ y ∧ y ≤ 18446744073709551615 := by
  unfold setAt; split
  · intro y hy
    rcases List.mem_or_eq_of_mem_set hy with h | h
    · exact hC y h
    · rw [h]; exact hx
  · exact hC

theorem only_count (w : World) (p : Nat) (v u : Value) : Only (Foot p v) w (w.setCell ⟨p, 1, none⟩ u) := (refl _ _).setCell (fun _ => .inl rfl) _

set_option maxHeartbeats 1000000 in
set_option maxRecDepth 100000 in
theorem load (h : MemAt B p v C n w) (a : Int) (ha : -9223372036854775808 ≤ a ∧ a ≤ 9223372036854775807) (hn : 0 ≤ n ∧ n < 4611686018427387904) :
    Calls Try.prog 16 #[.pointer (some ⟨p, 0, none⟩), .int .i64 a] w fun e w' => e = .returned (.tuple #[.int .u64 (rdAt C a), .int .i64 (errAt C a)]) ∧ MemAt B p v C (n + hit C a) w' ∧ Only (Foot p v) w w' := by
  cases hr : inR C a with
  | true =>
    obtain ⟨g, cap, i, rfl, hi, hv, hB, hg, hgp, hc, hf⟩ := h.shape hr
    have e1 : rdAt C i = C.getD i 0 := by unfold rdAt; rw [if_pos hr]; rfl
    have e2 : errAt C i = 0 := by unfold errAt; rw [if_pos hr]
    have e3 : hit C i = 1 := by unfold hit; rw [if_pos hr]
    rw [e1, e2, e3]
    have H := Lib.hid h
    have hc' : (w.setCell ⟨p, 1, none⟩ (.int .i64 (n + 1))).cell? ⟨g, i, none⟩ = some (.int .u64 (C.getD i 0)) := by
      rw [World.cell?_setCell_other _ _ _ _ (by intro e; injection e with e1; exact hgp e1.symm)]; exact hc
    clear h e1 e2 e3 hr hc
    generalize C.getD i 0 = x at *
    go_enter Try.func16, Try.ntmps16
    go_wp2_with fail
    refine (at_in H.out hv i hi hn).mono ?_
    rintro e w1 ⟨rfl, rfl⟩
    go_wp2
    go_ret2
    exact ⟨rfl, H.out.count _, only_count _ _ _ _⟩
  | false =>
    have e1 : rdAt C a = 0 := by unfold rdAt; rw [hr]; rfl
    have e2 : errAt C a = 1 := by unfold errAt; rw [hr]; rfl
    have e3 : hit C a = 0 := by unfold hit; rw [hr]; rfl
    rw [e1, e2, e3]
    have H := Lib.hid h
    clear h e1 e2 e3
    go_enter Try.func16, Try.ntmps16
    go_wp2_with fail
    refine (at_out H.out a ha (inR_false.1 hr)).mono ?_
    rintro e w1 ⟨rfl, rfl⟩
    go_wp2
    go_ret2
    exact ⟨rfl, by simpa using H.out, refl _ _⟩

set_option maxHeartbeats 1000000 in
set_option maxRecDepth 100000 in
theorem peek (h : MemAt B p v C n w) (a : Int) (ha : -9223372036854775808 ≤ a ∧ a ≤ 9223372036854775807) (hn : 0 ≤ n ∧ n < 4611686018427387904) :
    Calls Try.prog 22 #[.pointer (some ⟨p, 0, none⟩), .int .i64 a] w fun e w' => e = .returned (.tuple #[.int .u64 (rdAt C a), .int .i64 (errAt C a)]) ∧ MemAt B p v C n w' ∧ Only (Foot p v) w w' := by
  cases hr : inR C a with
  | true =>
    obtain ⟨g, cap, i, rfl, hi, hv, hB, hg, hgp, hc, hf⟩ := h.shape hr
    have e1 : rdAt C i = C.getD i 0 := by unfold rdAt; rw [if_pos hr]; rfl
    have e2 : errAt C i = 0 := by unfold errAt; rw [if_pos hr]
    rw [e1, e2]
    have H := Lib.hid h
    have hc' : ∀ y : Value, (w.setCell ⟨p, 1, none⟩ y).cell? ⟨g, i, none⟩ = some (.int .u64 (C.getD i 0)) := fun y => by
      rw [World.cell?_setCell_other _ _ _ _ (by intro e; injection e with e1; exact hgp e1.symm)]; exact hc
    have hc2 : ∀ y z : Value, ((w.setCell ⟨p, 1, none⟩ y).setCell ⟨p, 1, none⟩ z).cell? ⟨g, i, none⟩ = some (.int .u64 (C.getD i 0)) := fun y z => by
      rw [World.cell?_setCell_other _ _ _ _ (by intro e; injection e with e1; exact hgp e1.symm)]; exact hc' y
    have d1 := (h.count (n + 1)).c1
    have d2 := (h.count (n + 1)).f1
    clear h e1 e2 hr hc hc'
    generalize C.getD i 0 = x at *
    go_enter Try.func22, Try.ntmps22
    go_wp2_with fail
    refine (at_in H.out hv i hi hn).mono ?_
    rintro e w1 ⟨rfl, rfl⟩
    go_wp2
    go_ret2
    refine ⟨rfl, ?_, (only_count w p v _).setCell (p := ⟨p, 1, none⟩) (fun _ => .inl rfl) _⟩
    have := (H.out.count (n + 1)).count n
    simpa using this
  | false =>
    have e1 : rdAt C a = 0 := by unfold rdAt; rw [hr]; rfl
    have e2 : errAt C a = 1 := by unfold errAt; rw [hr]; rfl
    rw [e1, e2]
    have H := Lib.hid h
    clear h e1 e2
    go_enter Try.func22, Try.ntmps22
    go_wp2_with fail
    refine (at_out H.out a ha (inR_false.1 hr)).mono ?_
    rintro e w1 ⟨rfl, rfl⟩
    go_wp2
    go_ret2
    exact ⟨rfl, H.out, refl _ _⟩

set_option maxHeartbeats 1000000 in
set_option maxRecDepth 100000 in
theorem store (h : MemAt B p v C n w) (a x : Int) (ha : -9223372036854775808 ≤ a ∧ a ≤ 9223372036854775807) (hn : 0 ≤ n ∧ n < 4611686018427387904) :
    Calls Try.prog 38 #[.pointer (some ⟨p, 0, none⟩), .int .i64 a, .int .u64 x] w fun e w' => e = .returned (.int .i64 (errAt C a)) ∧ MemAt B p v (setAt C a x) (n + hit C a) w' ∧ Only (Foot p v) w w' := by
  cases hr : inR C a with
  | true =>
    obtain ⟨g, cap, i, rfl, hi, hv, hB, hg, hgp, hc, hf⟩ := h.shape hr
    have e1 : setAt C i x = C.set i x := by unfold setAt; rw [if_pos hr]; rfl
    have e2 : errAt C i = 0 := by unfold errAt; rw [if_pos hr]
    have e3 : hit C i = 1 := by unfold hit; rw [if_pos hr]
    rw [e1, e2, e3]
    have H := Lib.hid h
    have hc' : (w.setCell ⟨p, 1, none⟩ (.int .i64 (n + 1))).cell? ⟨g, i, none⟩ = some (.int .u64 (C.getD i 0)) := by
      rw [World.cell?_setCell_other _ _ _ _ (by intro e; injection e with e1; exact hgp e1.symm)]; exact hc
    have hf' : (w.setCell ⟨p, 1, none⟩ (.int .i64 (n + 1))).frozen? ⟨g, i, none⟩ = false := by
      rw [World.frozen?_setCell]; exact hf
    clear h e1 e2 e3 hr hc hf
    generalize C.getD i 0 = y at *
    go_enter Try.func38, Try.ntmps38
    go_wp2_with fail
    refine (at_in H.out hv i hi hn).mono ?_
    rintro e w1 ⟨rfl, rfl⟩
    go_wp2
    go_ret
    exact ⟨rfl, (H.out.count _).put hv i hi x, (only_count _ _ _ _).setCell (fun _ => .inr (by rw [hv]; rfl)) _⟩
  | false =>
    have e1 : setAt C a x = C := by unfold setAt; rw [hr]; rfl
    have e2 : errAt C a = 1 := by unfold errAt; rw [hr]; rfl
    have e3 : hit C a = 0 := by unfold hit; rw [hr]; rfl
    rw [e1, e2, e3]
    have H := Lib.hid h
    clear h e1 e2 e3
    go_enter Try.func38, Try.ntmps38
    go_wp2_with fail
    refine (at_out H.out a ha (inR_false.1 hr)).mono ?_
    rintro e w1 ⟨rfl, rfl⟩
    go_wp2
    go_ret
    exact ⟨rfl, by simpa using H.out, refl _ _⟩

/-- Does a CAS take? -/
def casB (C : List Int) (a old : Int) : Bool := inR C a && (rdAt C a == old)
def casAt (C : List Int) (a old x : Int) : List Int := if casB C a old then setAt C a x else C

set_option maxHeartbeats 1000000 in
set_option maxRecDepth 100000 in
theorem cas (h : MemAt B p v C n w) (a old x : Int) (ha : -9223372036854775808 ≤ a ∧ a ≤ 9223372036854775807) (hn : 0 ≤ n ∧ n < 4611686018427387904) :
    Calls Try.prog 19 #[.pointer (some ⟨p, 0, none⟩), .int .i64 a, .int .u64 old, .int .u64 x] w fun e w' => e = .returned (.tuple #[.int .u64 (rdAt C a), .bool (casB C a old)]) ∧ MemAt B p v (casAt C a old x) (n + hit C a) w' ∧ Only (Foot p v) w w' := by
  cases hr : inR C a with
  | true =>
    obtain ⟨g, cap, i, rfl, hi, hv, hB, hg, hgp, hc, hf⟩ := h.shape hr
    have e0 : rdAt C i = C.getD i 0 := by unfold rdAt; rw [if_pos hr]; rfl
    have e3 : hit C i = 1 := by unfold hit; rw [if_pos hr]
    have e4 : casB C i old = (C.getD i 0 == old) := by unfold casB; rw [hr, e0]; rfl
    have e5 : setAt C i x = C.set i x := by unfold setAt; rw [if_pos hr]; rfl
    unfold casAt
    rw [e0, e3, e4, e5]
    have H := Lib.hid h
    have hc' : (w.setCell ⟨p, 1, none⟩ (.int .i64 (n + 1))).cell? ⟨g, i, none⟩ = some (.int .u64 (C.getD i 0)) := by
      rw [World.cell?_setCell_other _ _ _ _ (by intro e; injection e with e1; exact hgp e1.symm)]; exact hc
    have hf' : (w.setCell ⟨p, 1, none⟩ (.int .i64 (n + 1))).frozen? ⟨g, i, none⟩ = false := by
      rw [World.frozen?_setCell]; exact hf
    have HV := Lib.hid hv
    clear h e0 e3 e4 e5 hr hc hf hv
    generalize C.getD i 0 = y at *
    cases hq : (y == old) with
    | true =>
      go_enter Try.func19, Try.ntmps19
      go_wp2_with fail
      refine (at_in H.out HV.out i hi hn).mono ?_
      rintro e w1 ⟨rfl, rfl⟩
      go_wp2
      go_ret2
      exact ⟨rfl, (H.out.count _).put HV.out i hi x, (only_count _ _ _ _).setCell (fun _ => .inr (by rw [HV.out]; rfl)) _⟩
    | false =>
      go_enter Try.func19, Try.ntmps19
      go_wp2_with fail
      refine (at_in H.out HV.out i hi hn).mono ?_
      rintro e w1 ⟨rfl, rfl⟩
      go_wp2
      go_ret2
      exact ⟨rfl, H.out.count _, only_count _ _ _ _⟩
  | false =>
    have e0 : rdAt C a = 0 := by unfold rdAt; rw [hr]; rfl
    have e3 : hit C a = 0 := by unfold hit; rw [hr]; rfl
    have e4 : casB C a old = false := by unfold casB; rw [hr]; rfl
    unfold casAt
    rw [e0, e3, e4]
    have H := Lib.hid h
    clear h e0 e3 e4
    go_enter Try.func19, Try.ntmps19
    go_wp2_with fail
    refine (at_out H.out a ha (inR_false.1 hr)).mono ?_
    rintro e w1 ⟨rfl, rfl⟩
    go_wp2
    go_ret2
    exact ⟨rfl, by simpa using H.out, refl _ _⟩

/-- What stands there behind an Add. -/
def addAt (C : List Int) (a x : Int) : List Int := setAt C a ((rdAt C a + x) % 18446744073709551616)

theorem wrap_u64 (n : Int) : IntKind.u64.wrap n = n % 18446744073709551616 := by simp [IntKind.wrap, IntKind.bits, IntKind.signed]

set_option maxHeartbeats 1000000 in
set_option maxRecDepth 100000 in
theorem add (h : MemAt B p v C n w) (a x : Int) (ha : -9223372036854775808 ≤ a ∧ a ≤ 9223372036854775807) (hn : 0 ≤ n ∧ n < 4611686018427387904) :
    Calls Try.prog 15 #[.pointer (some ⟨p, 0, none⟩), .int .i64 a, .int .u64 x] w fun e w' => e = .returned (.tuple #[.int .u64 (rdAt C a), .int .i64 (errAt C a)]) ∧ MemAt B p v (addAt C a x) (n + hit C a) w' ∧ Only (Foot p v) w w' := by
  cases hr : inR C a with
  | true =>
    obtain ⟨g, cap, i, rfl, hi, hv, hB, hg, hgp, hc, hf⟩ := h.shape hr
    have e0 : rdAt C i = C.getD i 0 := by unfold rdAt; rw [if_pos hr]; rfl
    have e1 : ∀ y, setAt C i y = C.set i y := fun y => by unfold setAt; rw [if_pos hr]; rfl
    have e2 : errAt C i = 0 := by unfold errAt; rw [if_pos hr]
    have e3 : hit C i = 1 := by unfold hit; rw [if_pos hr]
    unfold addAt
    rw [e0, e1, e2, e3]
    have H := Lib.hid h
    have hc' : (w.setCell ⟨p, 1, none⟩ (.int .i64 (n + 1))).cell? ⟨g, i, none⟩ = some (.int .u64 (C.getD i 0)) := by
      rw [World.cell?_setCell_other _ _ _ _ (by intro e; injection e with e1; exact hgp e1.symm)]; exact hc
    have hf' : (w.setCell ⟨p, 1, none⟩ (.int .i64 (n + 1))).frozen? ⟨g, i, none⟩ = false := by
      rw [World.frozen?_setCell]; exact hf
    clear h e0 e1 e2 e3 hr hc hf
    generalize C.getD i 0 = y at *
    rw [← wrap_u64]
    go_enter Try.func15, Try.ntmps15
    go_wp2_with fail
    refine (at_in H.out hv i hi hn).mono ?_
    rintro e w1 ⟨rfl, rfl⟩
    go_wp2
    go_ret2
    exact ⟨rfl, (H.out.count _).put hv i hi _, (only_count _ _ _ _).setCell (fun _ => .inr (by rw [hv]; rfl)) _⟩
  | false =>
    have e0 : rdAt C a = 0 := by unfold rdAt; rw [hr]; rfl
    have e1 : ∀ y, setAt C a y = C := fun y => by unfold setAt; rw [hr]; rfl
    have e2 : errAt C a = 1 := by unfold errAt; rw [hr]; rfl
    have e3 : hit C a = 0 := by unfold hit; rw [hr]; rfl
    unfold addAt
    rw [e0, e1, e2, e3]
    have H := Lib.hid h
    clear h e0 e1 e2 e3
    go_enter Try.func15, Try.ntmps15
    go_wp2_with fail
    refine (at_out H.out a ha (inR_false.1 hr)).mono ?_
    rintro e w1 ⟨rfl, rfl⟩
    go_wp2
    go_ret2
    exact ⟨rfl, by simpa using H.out, refl _ _⟩

set_option maxRecDepth 100000 in
theorem len (h : MemAt B p v C n w) :
    Calls Try.prog 21 #[.pointer (some ⟨p, 0, none⟩)] w fun e w' => e = .returned (.int .i64 C.length) ∧ w = w' := by
  have c0 := h.c0
  obtain ⟨ad, cap, hv, hc⟩ := own_any h.own
  subst hv
  clear h
  go_enter Try.func21, Try.ntmps21
  go_wp2
  go_ret
  exact ⟨rfl, rfl⟩

set_option maxRecDepth 100000 in
theorem count (h : MemAt B p v C n w) :
    Calls Try.prog 20 #[.pointer (some ⟨p, 0, none⟩)] w fun e w' => e = .returned (.int .i64 n) ∧ w = w' := by
  have c1 := h.c1
  clear h
  go_enter Try.func20, Try.ntmps20
  go_wp2
  go_ret
  exact ⟨rfl, rfl⟩
end
end Go.Proofs.Ytllibgjajlgnbaa.Mem
