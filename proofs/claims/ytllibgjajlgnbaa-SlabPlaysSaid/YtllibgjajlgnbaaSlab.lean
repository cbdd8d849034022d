/- package slab: its records, and what the functions that only read tell. -/
import Derived.Test.YtllibgjajlgnbaaGrow
import Derived.Deep.QuietTactic
import Derived.BigQuiet
import Derived.IntWalk
import Derived.Outline
namespace Go.Proofs.Ytllibgjajlgnbaa.Slab
open Go Go.RowKit Go.Proofs.Ytllibgjajlgnbaa.Only Go.Proofs.Ytllibgjajlgnbaa.Mem Go.Proofs.Ytllibgjajlgnbaa.New Go.Proofs.Ytllibgjajlgnbaa.Grow
set_option linter.unusedVariables false
set_option linter.unusedSimpArgs false

/-- A slice of whole numbers that may begin amid a block of the call's own. -/
def Queue (B : Nat) (v : Value) (xs : List Int) (w : World) : Prop :=
  (v = .slice none 0 0 ∧ xs = []) ∨ ∃ g o cap cur, v = .slice (some ⟨g, o, none⟩) xs.length cap ∧ B ≤ g ∧ w.heap[g]? = some (.cells cur 3 (0, 0)) ∧ xs.length ≤ cap ∧ cap ≤ maxLen ∧ o + cap ≤ cur.size ∧ ∀ j, j < xs.length → cur[o + j]? = some (.int .i64 (xs.getD j 0))
theorem Queue.keep {B : Nat} {v : Value} {xs : List Int} {w w' : World} (h : Queue B v xs w) {S : Nat → Prop} (ho : Only S w w') (hS : ∀ k, v.ownBlock = some k → ¬ S k) : Queue B v xs w' := by
  rcases h with h | ⟨g, o, cap, cur, hv, hB, hg, r⟩
  · exact .inl h
  · exact .inr ⟨g, o, cap, cur, hv, hB, by rw [ho.block g (lt_of_heap hg) (hS g (by rw [hv]; rfl))]; exact hg, r⟩
theorem Queue.any {B : Nat} {v : Value} {xs : List Int} {w : World} (h : Queue B v xs w) : ∃ a cap, v = .slice a xs.length cap ∧ xs.length ≤ cap ∧ cap ≤ maxLen := by
  rcases h with ⟨h, h0⟩ | ⟨g, o, cap, cur, hv, hB, hg, hc, hm, _⟩
  · exact ⟨none, 0, by rw [h, h0]; rfl, by rw [h0]; simp, by simp⟩
  · exact ⟨_, cap, hv, hc, hm⟩
theorem Queue.lt {B : Nat} {v : Value} {xs : List Int} {w : World} (h : Queue B v xs w) {k : Nat} (hk : v.ownBlock = some k) : B ≤ k ∧ k < w.heap.size ∧ ∃ cs, w.heap[k]? = some (.cells cs 3 (0, 0)) := by
  rcases h with ⟨h, h0⟩ | ⟨g, o, cap, cur, hv, hB, hg, _⟩
  · rw [h] at hk; cases hk
  · rw [hv] at hk; cases hk; exact ⟨hB, lt_of_heap hg, _, hg⟩
theorem Queue.of_own {B : Nat} {v : Value} {xs : List Int} {w : World} (h : w.ownsRow B 3 1 v xs.length (xs.map (Value.int .i64))) : Queue B v xs w := by
  rcases h.2 with ⟨h1, h2⟩ | ⟨g, cap, cur, hv, hB, hg, hc, hm, hz, hx⟩
  · exact .inl ⟨h1, List.eq_nil_of_length_eq_zero h2⟩
  · refine .inr ⟨g, 0, cap, cur, hv, hB, hg, hc, hm, by omega, fun j hj => ?_⟩
    have e : (cur.toList.take (xs.length * 1))[j]? = (xs.map (Value.int .i64))[j]? := by rw [hx]
    rw [List.getElem?_take_of_lt (by omega)] at e
    simp only [Nat.zero_add]
    rw [← Array.getElem?_toList, e]
    simp [List.getD, hj]

/-- What a slab holds. -/
structure Sl where
  first : Int
  words : Int
  gens : List Int
  taken : List Bool
  row : List Int
def placeOf (r : Int) : Int := r % 4294967296 - 1
def genOf (r : Int) : Int := r / 4294967296
def thereB (s : Sl) (r : Int) : Bool := decide (0 ≤ placeOf r ∧ placeOf r < s.gens.length) && (s.taken.getD (placeOf r).toNat false && (s.gens.getD (placeOf r).toNat 0 == genOf r))
structure Sl.Ok (s : Sl) : Prop where
  f0 : 0 ≤ s.first ∧ s.first ≤ 65536
  w0 : 1 ≤ s.words ∧ s.words ≤ 65536
  len : s.taken.length = s.gens.length
  most : s.gens.length ≤ 65536
  gen : ∀ g ∈ s.gens, 0 ≤ g ∧ g ≤ 1000000
  row : ∀ p ∈ s.row, 0 ≤ p ∧ p < s.gens.length
  rows : s.row.length ≤ s.gens.length
  fits : s.first + s.gens.length * s.words ≤ 65536

/-- A slab: its block, its cells, and its three slices. -/
structure SlabAt (B sb p : Nat) (v : Value) (C : List Int) (n : Int) (vg vt vr : Value) (s : Sl) (w : World) : Prop where
  mem : MemAt B p v C n w
  blk : w.heap[sb]? = some (.cells #[.pointer (some ⟨p, 0, none⟩), .int .i64 s.first, .int .i64 s.words, vg, vt, vr] 97 (0, 0))
  g : w.ownsRow B 3 1 vg s.gens.length (s.gens.map (Value.int .i64))
  t : w.ownsRow B 4 1 vt s.taken.length (s.taken.map Value.bool)
  r : Queue B vr s.row w
  base : B ≤ sb
  ap : ∀ k, vg.ownBlock = some k → vr.ownBlock ≠ some k

/-- The blocks of a slab. -/
def SlF (sb p : Nat) (v vg vt vr : Value) (k : Nat) : Prop := k = sb ∨ Foot p v k ∨ vg.ownBlock = some k ∨ vt.ownBlock = some k ∨ vr.ownBlock = some k

section
variable {B sb p : Nat} {v : Value} {C : List Int} {n : Int} {vg vt vr : Value} {s : Sl} {w : World}

theorem own_blk {B : Nat} {T : TypeId} {size m : Nat} {u : Value} {xs : List Value} (h : w.ownsRow B T size u m xs) {k : Nat} (hk : u.ownBlock = some k) : B ≤ k ∧ k < w.heap.size ∧ ∃ cs, w.heap[k]? = some (.cells cs T (0, 0)) := by
  rcases h.2 with ⟨h2, _⟩ | ⟨g, cap, cur, hg, hb, hgg, _⟩
  · rw [h2] at hk; cases hk
  · rw [hg] at hk; cases hk; exact ⟨hb, lt_of_heap hgg, _, hgg⟩
theorem own_keep {S : Nat → Prop} {B : Nat} {T : TypeId} {size m : Nat} {u : Value} {xs : List Value} {w' : World} (h : w.ownsRow B T size u m xs) (ho : Only S w w') (hS : ∀ k, u.ownBlock = some k → ¬ S k) : w'.ownsRow B T size u m xs := by
  refine ⟨h.1, ?_⟩
  rcases h.2 with h2 | ⟨g, cap, cur, hg, hB, hgg, r⟩
  · exact .inl h2
  · exact .inr ⟨g, cap, cur, hg, hB, by rw [ho.block g (lt_of_heap hgg) (hS g (by rw [hg]; rfl))]; exact hgg, r⟩
theorem SlabAt.keep {S : Nat → Prop} {w' : World} (h : SlabAt B sb p v C n vg vt vr s w) (ho : Only S w w') (hS : ∀ k, SlF sb p v vg vt vr k → ¬ S k) : SlabAt B sb p v C n vg vt vr s w' :=
  ⟨h.mem.keep ho (hS _ (.inr (.inl (.inl rfl)))) (fun k hk => hS _ (.inr (.inl (.inr hk)))), (ho.block _ (lt_of_heap h.blk) (hS _ (.inl rfl))).trans h.blk,
    own_keep h.g ho (fun k hk => hS _ (.inr (.inr (.inl hk)))), own_keep h.t ho (fun k hk => hS _ (.inr (.inr (.inr (.inl hk))))), h.r.keep ho (fun k hk => hS _ (.inr (.inr (.inr (.inr hk))))), h.base, h.ap⟩
theorem SlabAt.below {w' : World} (h : SlabAt B sb p v C n vg vt vr s w) (hb : Below w.heap.size w w') : SlabAt B sb p v C n vg vt vr s w' := h.keep (S := fun _ => False) (ofBelow hb) (fun _ _ x => x)
theorem SlabAt.low (h : SlabAt B sb p v C n vg vt vr s w) : ∀ k, SlF sb p v vg vt vr k → B ≤ k ∧ k < w.heap.size := by
  intro k hk
  rcases hk with rfl | (rfl | hk) | hk | hk | hk
  · exact ⟨h.base, lt_of_heap h.blk⟩
  · exact ⟨h.mem.base, h.mem.lt⟩
  · have := own_blk h.mem.own hk; exact ⟨this.1, this.2.1⟩
  · have := own_blk h.g hk; exact ⟨this.1, this.2.1⟩
  · have := own_blk h.t hk; exact ⟨this.1, this.2.1⟩
  · have := h.r.lt hk; exact ⟨this.1, this.2.1⟩
theorem cells6 {g : Nat} {c0 c1 c2 c3 c4 c5 : Value} {T : TypeId} (h : w.heap[g]? = some (.cells #[c0, c1, c2, c3, c4, c5] T (0, 0))) :
    w.cell? ⟨g, 0, none⟩ = some c0 ∧ w.cell? ⟨g, 1, none⟩ = some c1 ∧ w.cell? ⟨g, 2, none⟩ = some c2 ∧ w.cell? ⟨g, 3, none⟩ = some c3 ∧ w.cell? ⟨g, 4, none⟩ = some c4 ∧ w.cell? ⟨g, 5, none⟩ = some c5 := by
  simp [World.cell?, h]
end

set_option maxRecDepth 100000 in
theorem place (r : Int) (hr : 0 ≤ r ∧ r ≤ 18446744073709551615) (w : World) :
    Calls Try.prog 25 #[.int .u64 r] w fun e w' => e = .returned (.int .i64 (placeOf r)) ∧ w = w' := by
  go_enter Try.func25, Try.ntmps25
  go_wp2
  go_ret
  exact ⟨rfl, rfl⟩
set_option maxRecDepth 100000 in
theorem gen (r : Int) (hr : 0 ≤ r ∧ r ≤ 18446744073709551615) (w : World) :
    Calls Try.prog 26 #[.int .u64 r] w fun e w' => e = .returned (.int .i64 (genOf r)) ∧ w = w' := by
  go_enter Try.func26, Try.ntmps26
  go_wp2
  go_ret
  exact ⟨rfl, rfl⟩

theorem below_drewN (w : World) (a : Nat) : Below w.heap.size w (w.drewN a) := ⟨rfl, rfl, rfl, Nat.le_refl _, fun _ _ => rfl⟩

section
variable {B sb p : Nat} {v : Value} {C : List Int} {n : Int} {vg vt vr : Value} {s : Sl} {w : World}
set_option maxHeartbeats 4000000 in
set_option maxRecDepth 100000 in
theorem there (h : SlabAt B sb p v C n vg vt vr s w) (ok : s.Ok) (r : Int) (hr : 0 ≤ r ∧ r ≤ 18446744073709551615) :
    Calls Try.prog 46 #[.pointer (some ⟨sb, 0, none⟩), .int .u64 r] w fun e w' => e = .returned (.bool (thereB s r)) ∧ Below w.heap.size w w' := by
  obtain ⟨k0, k1, k2, k3, k4, k5⟩ := cells6 h.blk
  have hlen := ok.len
  have hmost := ok.most
  have hpl : -1 ≤ placeOf r ∧ placeOf r ≤ 4294967295 := by unfold placeOf; omega
  have hgr : 0 ≤ genOf r ∧ genOf r ≤ 4294967295 := by unfold genOf; omega
  have H := Lib.hid h
  obtain ⟨Ag, cg, hvg, hcg⟩ := own_any h.g
  obtain ⟨At, ct, hvt, hct⟩ := own_any h.t
  subst hvg
  subst hvt
  clear h
  obtain ⟨tb, E0⟩ : ∃ tb, tb = (decide (0 ≤ placeOf r ∧ placeOf r < s.gens.length) && (s.taken.getD (placeOf r).toNat false && (s.gens.getD (placeOf r).toNat 0 == genOf r))) := ⟨_, rfl⟩
  rw [show thereB s r = tb from E0.symm]
  replace E0 := Lib.hid E0
  go_enter Try.func46, Try.ntmps46
  go_wp2_with fail
  refine (place r hr w).mono ?_
  rintro e w' ⟨rfl, rfl⟩
  have gq := fun w' => (gen r hr w').mono (fun e x (h : e = _ ∧ w' = x) => And.intro h.1 h.2.symm)
  replace gq := Lib.hid gq
  have e0 := E0.out
  clear E0
  generalize placeOf r = pl at *
  generalize genOf r = gr at *
  by_cases h0 : pl < 0
  · have b0 : decide (0 ≤ pl) = false := by simpa using h0
    rw [decide_eq_false (by omega), Bool.false_and] at e0
    subst e0
    go_wp2_with fail
    go_quiet (fail)
    go_wp2
    go_ret
    exact ⟨rfl, below_drewN _ _⟩
  have b0 : decide (0 ≤ pl) = true := by simpa using h0
  by_cases h1 : (s.gens.length : Int) ≤ pl
  · have b1 : decide (pl < (s.gens.length : Int)) = false := by simpa using h1
    rw [decide_eq_false (by omega), Bool.false_and] at e0
    subst e0
    go_wp2_with fail
    go_quiet (fail)
    go_wp2
    go_ret
    exact ⟨rfl, below_drewN _ _⟩
  have b1 : decide (pl < (s.gens.length : Int)) = true := by simp; omega
  rw [decide_eq_true (by omega), Bool.true_and] at e0
  obtain ⟨i, rfl⟩ := Int.eq_ofNat_of_zero_le (show 0 ≤ pl by omega)
  have hi : i < s.gens.length := by omega
  rw [Int.toNat_natCast] at e0
  obtain ⟨gg, cg', hvg, hBg, hcg', -, hlg, hxg, hfg⟩ := own_shape H.out.g (by omega)
  obtain ⟨gt, ct', hvt, hBt, hct', -, hlt, hxt, hft⟩ := own_shape H.out.t (by omega)
  injection hvg with q1 q2 q3
  injection hvt with q4 q5 q6
  subst q1
  subst q3
  subst q4
  subst q6
  have xt := hxt i (by omega)
  have xg := hxg i hi
  have et : (s.taken.map Value.bool).getD i (.bool false) = .bool (s.taken.getD i false) := by
    have : i < s.taken.length := by omega
    simp [List.getD, this]
  have eg : (s.gens.map (Value.int .i64)).getD i (.bool false) = .int .i64 (s.gens.getD i 0) := by simp [List.getD, hi]
  rw [et] at xt
  rw [eg] at xg
  generalize s.gens.getD i 0 = gv at *
  have b2 : decide ((i : Int) < (s.taken.length : Int)) = true := by simp; omega
  have hti : i < s.taken.length := by omega
  clear hxt hxg hft hfg et eg h1 h0
  cases ht : s.taken.getD i false with
  | false =>
    rw [ht] at xt e0
    rw [Bool.false_and] at e0
    subst e0
    go_wp2_with fail
    go_quiet (fail)
    go_wp2
    go_ret
    exact ⟨rfl, below_drewN _ _⟩
  | true =>
    rw [ht] at xt e0
    rw [Bool.true_and] at e0
    go_wp2_with fail
    go_quiet ((go_at_call 26; exact Calls.quiet_of_same (gq.out _)))
    go_wp2
    go_ret
    exact ⟨by rw [e0]; rfl, below_drewN _ _⟩

theorem drewN_of {w : World} (a : Nat) : ∃ m, w.drewN a = w.drewN m := ⟨a, rfl⟩
set_option maxHeartbeats 4000000 in
set_option maxRecDepth 100000 in
theorem live (h : SlabAt B sb p v C n vg vt vr s w) (ok : s.Ok) :
    Calls Try.prog 28 #[.pointer (some ⟨sb, 0, none⟩)] w fun e w' => e = .returned (.int .i64 ((s.gens.length : Int) - s.row.length)) ∧ Below w.heap.size w w' := by
  obtain ⟨k0, k1, k2, k3, k4, k5⟩ := cells6 h.blk
  have hmost := ok.most
  have hrows := ok.rows
  obtain ⟨Ag, cg, hvg, hcg⟩ := own_any h.g
  obtain ⟨Ar, cr, hvr, hcr, -⟩ := h.r.any
  subst hvg
  subst hvr
  clear h ok
  go_enter Try.func28, Try.ntmps28
  go_wp2_with fail
  go_quiet (fail)
  go_wp2
  go_ret
  exact ⟨rfl, below_drewN _ _⟩

/-- The number of a record's cell, and whether there is none. -/
def cellN (s : Sl) (r i : Int) : Int := if thereB s r then (if i < 0 ∨ s.words ≤ i then 0 else s.first + placeOf r * s.words + i) else 0
def cellE (s : Sl) (r i : Int) : Int := if thereB s r then (if i < 0 ∨ s.words ≤ i then 1 else 0) else 4
theorem thereB_place {s : Sl} {r : Int} (h : thereB s r = true) : 0 ≤ placeOf r ∧ placeOf r < s.gens.length := by
  unfold thereB at h
  simp only [Bool.and_eq_true, decide_eq_true_eq] at h
  exact h.1
theorem mul_in {a b m w : Int} (ha : 0 ≤ a ∧ a < m) (hw : 1 ≤ w) (hb : b + m * w ≤ 65536) (h0 : 0 ≤ b) : 0 ≤ a * w ∧ b + a * w + w ≤ 65536 := by
  have h1 : a * w + w ≤ m * w := by
    have : (a + 1) * w ≤ m * w := Int.mul_le_mul_of_nonneg_right (by omega) (by omega)
    rw [Int.add_mul, Int.one_mul] at this
    exact this
  exact ⟨Int.mul_nonneg ha.1 (by omega), by omega⟩
set_option maxHeartbeats 4000000 in
set_option maxRecDepth 100000 in
theorem cell (h : SlabAt B sb p v C n vg vt vr s w) (ok : s.Ok) (r i : Int) (hr : 0 ≤ r ∧ r ≤ 18446744073709551615) (hi : -9223372036854775808 ≤ i ∧ i ≤ 9223372036854775807) :
    Calls Try.prog 27 #[.pointer (some ⟨sb, 0, none⟩), .int .u64 r, .int .i64 i] w fun e w' => e = .returned (.tuple #[.int .i64 (cellN s r i), .int .i64 (cellE s r i)]) ∧ Below w.heap.size w w' := by
  have hw := ok.w0
  have hf := ok.f0
  have hm := fun hp => mul_in (a := placeOf r) (m := s.gens.length) hp ok.w0.1 ok.fits ok.f0.1
  have eN : cellN s r i = if thereB s r then (if i < 0 ∨ s.words ≤ i then 0 else s.first + placeOf r * s.words + i) else 0 := rfl
  have eE : cellE s r i = if thereB s r then (if i < 0 ∨ s.words ≤ i then 1 else 0) else 4 := rfl
  have hpl := fun h => thereB_place (s := s) (r := r) h
  have H := there h ok r hr
  generalize cellN s r i = N at *
  generalize cellE s r i = E at *
  have hs := h.blk
  generalize thereB s r = tb at *
  replace H := Lib.hid H
  replace h := Lib.hid h
  replace hm := Lib.hid hm
  replace hpl := Lib.hid hpl
  replace hs := Lib.hid hs
  cases tb with
  | false =>
    rw [if_neg (by simp)] at eN eE
    subst eN
    subst eE
    go_enter Try.func27, Try.ntmps27
    go_wp2_with fail
    refine H.out.mono ?_
    rintro e w1 ⟨rfl, hb⟩
    replace hb := Lib.hid hb
    go_wp2
    go_ret2
    exact ⟨rfl, hb.out⟩
  | true =>
    rw [if_pos rfl] at eN eE
    have hp := hpl.out rfl
    have hmm := hm.out hp
    have hq := hp.2
    by_cases hi0 : i < 0
    · rw [if_pos (.inl hi0)] at eN eE
      subst eN
      subst eE
      have b0 : decide (i < 0) = true := by simpa using hi0
      go_enter Try.func27, Try.ntmps27
      go_wp2_with fail
      refine H.out.mono ?_
      rintro e w1 ⟨rfl, hb⟩
      replace hb := Lib.hid hb
      go_wp2
      go_ret2
      exact ⟨rfl, hb.out⟩
    · have b0 : decide (i < 0) = false := by simpa using hi0
      by_cases hi1 : s.words ≤ i
      · rw [if_pos (.inr hi1)] at eN eE
        subst eN
        subst eE
        have b1 : decide (s.words ≤ i) = true := by simpa using hi1
        go_enter Try.func27, Try.ntmps27
        go_wp2_with fail
        refine H.out.mono ?_
        rintro e w1 ⟨rfl, hb⟩
        obtain ⟨k0, k1, k2, k3, k4, k5⟩ := cells6 ((hb.block _ (lt_of_heap hs.out)).trans hs.out)
        replace hb := Lib.hid hb
        go_wp2
        go_ret2
        exact ⟨rfl, hb.out⟩
      · rw [if_neg (by omega)] at eN eE
        subst eE
        replace eN := Lib.hid eN
        have b1 : decide (s.words ≤ i) = false := by simpa using hi1
        have pl := fun w' => (place r hr w').mono (fun e x (h : e = _ ∧ w' = x) => And.intro h.1 h.2.symm)
        replace pl := Lib.hid pl
        generalize placeOf r = q at *
        have e1 : IntKind.i64.wrap (q * s.words) = q * s.words := IntWalk.i64_in _ (by omega)
        have e2 : IntKind.i64.wrap (s.first + q * s.words) = s.first + q * s.words := IntWalk.i64_in _ (by omega)
        have e3 : IntKind.i64.wrap (s.first + q * s.words + i) = s.first + q * s.words + i := IntWalk.i64_in _ (by omega)
        go_enter Try.func27, Try.ntmps27
        go_wp2_with fail
        refine H.out.mono ?_
        rintro e w1 ⟨rfl, hb⟩
        obtain ⟨k0, k1, k2, k3, k4, k5⟩ := cells6 ((hb.block _ (lt_of_heap hs.out)).trans hs.out)
        replace hb := Lib.hid hb
        go_wp2_with fail
        go_quiet ((go_at_call 25; exact Calls.quiet_of_same (pl.out _)))
        go_wp2
        go_ret2
        exact ⟨by rw [eN.out]; rfl, hb.out.trans ((below_drewN _ _).mono hb.out.size)⟩
end
end Go.Proofs.Ytllibgjajlgnbaa.Slab
