/- What the laws' walks share: sums, bounds, deeds; the example. -/
import Derived.Test.YtecjkpjcmgohmacEpNil
import Derived.Test.YtecjkpjcmgohmacArgs
namespace Go.Proofs.Ytecjkpjcmgohmac.Ep
open Go Go.RowKit Go.Maps Go.Proofs.Ytecjkpjcmgohmac.Only Go.Proofs.Ytecjkpjcmgohmac.Args
set_option linter.unusedVariables false
set_option linter.unusedSimpArgs false

theorem poolB {B pb mb : Nat} {vin : Value} {inn : List Int} {ep : Int} {G : List Grp} {w w' : World} (h : PoolR B pb mb vin inn ep G w) (ho : Only (PoolF pb mb vin G) w w') (hB : B ≤ w.heap.size) : Below B w w' := ho.toBelow B hB (fun k _ e => (h.low k e).1)
theorem sum_app (G H : List Grp) : sumL (G ++ H) = sumL G + sumL H := by unfold sumL; rw [List.map_append, List.sum_append]
theorem sum_split (p : Grp → Bool) (G : List Grp) : sumL (G.filter p) + sumL (G.filter (fun g => !p g)) = sumL G := by
  unfold sumL
  induction G with
  | nil => rfl
  | cons g G ih =>
    rw [List.filter_cons, List.filter_cons]
    cases h : p g <;> simp <;> omega
theorem flat_len (G : List Grp) : (G.flatMap Grp.xs).length = sumL G := by
  unfold sumL
  rw [List.length_flatMap]
theorem freed_len (ep : Int) (G : List Grp) : (freedL ep G).length + sumL (keptG ep G) = sumL G := by
  unfold freedL keptG
  rw [flat_len]
  exact sum_split (old ep) G
theorem sum_take (G : List Grp) (k : Nat) : sumL (G.take k) ≤ sumL G := by
  have := congrArg sumL (List.take_append_drop k G)
  rw [sum_app] at this
  omega
theorem freed_take (ep : Int) (G : List Grp) (k : Nat) : (freedL ep (G.take k)).length ≤ sumL G := by
  have h1 := freed_len ep (G.take k)
  have h2 := sum_take G k
  omega
theorem xsOf_len (G : List Grp) (e : Int) : (xsOf G e).length ≤ sumL G := by
  rcases find_at G e with ⟨g, hg, -, -, e2⟩ | ⟨-, e2⟩
  · rw [e2]
    obtain ⟨a, b, rfl⟩ := List.append_of_mem hg
    rw [sum_app]
    unfold sumL
    simp
    omega
  · rw [e2]; simp
theorem cut_sum {G : List Grp} (ha : G.Pairwise (fun a b => a.e < b.e)) (e : Int) : sumL (cut G e) + (xsOf G e).length = sumL G := by
  have hs := sum_split (fun g => g.e != e) G
  have : sumL (G.filter (fun g => !(g.e != e))) = (xsOf G e).length := by
    induction G with
    | nil => rfl
    | cons g G ih =>
      obtain ⟨h1, h2⟩ := List.pairwise_cons.1 ha
      rw [List.filter_cons]
      by_cases hge : g.e = e
      · subst hge
        have hn : G.filter (fun x => !(x.e != g.e)) = [] := by
          rw [List.filter_eq_nil_iff]
          intro x hx
          have := h1 x hx
          simp; omega
        rw [if_pos (by simp), hn]
        unfold xsOf sumL
        simp
      · have e1 : xsOf (g :: G) e = xsOf G e := by
          unfold xsOf
          rw [List.find?_cons]
          have : (g.e == e) = false := by simpa using hge
          rw [this]
        rw [if_neg (by simpa using hge), e1]
        exact ih h2 (sum_split _ G)
  unfold cut
  omega
theorem retire_sum {G : List Grp} (ha : G.Pairwise (fun a b => a.e < b.e)) (e : Int) (v : Value) (x : Int) : sumL (cut G e ++ [⟨e, v, xsOf G e ++ [x]⟩]) = sumL G + 1 := by
  have := cut_sum ha e
  rw [sum_app]
  have h1 : sumL [⟨e, v, xsOf G e ++ [x]⟩] = (xsOf G e).length + 1 := by unfold sumL; simp
  omega

/-- Bounds behind k deeds. -/
structure PB (c k : Nat) (inn : List Int) (ep : Int) (G : List Grp) : Prop where
  len : inn.length = c
  e0 : 0 ≤ ep
  ek : ep ≤ k
  sum : sumL G ≤ k
  gl : G.length ≤ k
  g0 : ∀ g ∈ G, 0 ≤ g.e
theorem set_len (inn : List Int) (t ep : Int) : (exitI inn t).length = inn.length ∧ (enterI inn ep t).length = inn.length := by
  unfold exitI enterI
  constructor <;> split <;> simp
section
variable {c k : Nat} {inn : List Int} {ep : Int} {G : List Grp}
theorem PB.mono {k' : Nat} (h : PB c k inn ep G) (hk : k ≤ k') : PB c k' inn ep G := ⟨h.len, h.e0, by have := h.ek; omega, Nat.le_trans h.sum hk, Nat.le_trans h.gl hk, h.g0⟩
theorem PB.exit (h : PB c k inn ep G) (t : Int) : PB c k (exitI inn t) ep G := ⟨by rw [(set_len inn t 0).1]; exact h.len, h.e0, h.ek, h.sum, h.gl, h.g0⟩
theorem PB.enter (h : PB c k inn ep G) (t : Int) : PB c k (enterI inn ep t) ep G := ⟨by rw [(set_len inn t ep).2]; exact h.len, h.e0, h.ek, h.sum, h.gl, h.g0⟩
theorem PB.adv (h : PB c k inn ep G) : PB c (k + 1) inn (advE inn ep) G := by
  have := h.ek
  have := h.e0
  refine ⟨h.len, ?_, ?_, Nat.le_trans h.sum (by omega), Nat.le_trans h.gl (by omega), h.g0⟩ <;> unfold advE <;> split <;> omega
theorem PB.retire (h : PB c k inn ep G) (ha : G.Pairwise (fun a b => a.e < b.e)) (v : Value) (x : Int) : PB c (k + 1) inn ep (cut G ep ++ [⟨ep, v, xsOf G ep ++ [x]⟩]) := by
  have h1 := retire_sum ha ep v x
  have h2 := h.sum
  have h3 := h.ek
  have h4 := h.gl
  refine ⟨h.len, h.e0, by omega, by omega, ?_, fun g hg => ?_⟩
  · have : (cut G ep).length ≤ G.length := List.length_filter_le _ _
    simp; omega
  · rcases List.mem_append.1 hg with q | q
    · exact h.g0 g (mem_cut.1 q).1
    · have q : g = _ := List.mem_singleton.1 q
      subst q; exact h.e0
theorem PB.free (h : PB c k inn ep G) : PB c k inn ep (keptG ep G) := by
  have h1 := freed_len ep G
  have h2 := h.sum
  refine ⟨h.len, h.e0, h.ek, by omega, Nat.le_trans (List.length_filter_le _ _) h.gl, fun g hg => h.g0 g (List.mem_filter.1 hg).1⟩
end
theorem PB.new (c : Nat) : PB c 0 (newI c) 0 [] := ⟨by unfold newI; simp, by omega, by omega, by unfold sumL; simp, by simp, fun g hg => by simp at hg⟩

/-! The contracts, with those bounds. -/
section
variable {B pb mb : Nat} {vin : Value} {c k : Nat} {inn : List Int} {ep : Int} {G : List Grp} {w : World}
theorem retireB (h : PoolR B pb mb vin inn ep G w) (b : PB c k inn ep G) (hk : k ≤ 1000) (hB : B ≤ w.heap.size) (x : Int) :
    Calls Try.prog 16 #[.pointer (some ⟨pb, 0, none⟩), .int .u64 x] w (Retired B pb mb vin inn ep G x w) := by
  have := b.e0
  have := b.ek
  have := b.gl
  have := xsOf_len G ep
  have := b.sum
  exact retire h hB (by omega) (by omega) (by omega) x
theorem advanceB (h : PoolR B pb mb vin inn ep G w) (b : PB c k inn ep G) (hk : k ≤ 1000) (hc : 1 ≤ c) (h8 : c ≤ 8) :
    Calls Try.prog 17 #[.pointer (some ⟨pb, 0, none⟩)] w fun e w' => e = .returned (.bool (advB inn ep)) ∧ PoolR B pb mb vin inn (advE inn ep) G w' ∧ Only (PoolF pb mb vin G) w w' := by
  have := b.e0
  have := b.ek
  exact advance h (by rw [b.len]; omega) (by rw [b.len]; omega) (by omega)
theorem freeB (h : PoolR B pb mb vin inn ep G w) (b : PB c k inn ep G) (hk : k ≤ 1000) (hB : B ≤ w.heap.size) :
    Calls Try.prog 18 #[.pointer (some ⟨pb, 0, none⟩)] w (FreedE B pb mb vin inn ep G w) := by
  have h1 := b.e0
  have h2 := b.ek
  have h3 := b.gl
  have h4 := b.sum
  exact free h hB (by omega) (fun j => by have := freed_take ep G j; omega) (fun g hg => by have := b.g0 g hg; have := h.top g hg; omega) (by omega)
theorem leftB (h : PoolR B pb mb vin inn ep G w) (b : PB c k inn ep G) (hk : k ≤ 1000) :
    Calls Try.prog 19 #[.pointer (some ⟨pb, 0, none⟩)] w fun e w' => e = .returned (.int .i64 (sumL G)) ∧ Below w.heap.size w w' := left h (by have := b.sum; omega)
end

/-! Deeds. -/
structure Dd where
  k : Int
  t : Int
  x : Int
def ks3 : List IntKind := [.i64, .i64, .u64]
def deedOf (l : List Int) : Dd := ⟨l.getD 0 0, l.getD 1 0, l.getD 2 0⟩
theorem structs_below {ks : List IntKind} {w w' : World} {v : Value} {zs : List (List Int)} (h : Structs ks w v zs) (hb : Below w.heap.size w w') : Structs ks w' v zs := by
  obtain ⟨⟨a, cap, hv, hl, hx⟩, hr⟩ := h
  refine ⟨⟨a, cap, hv, hl, fun i hi => ?_⟩, hr⟩
  obtain ⟨x, ha, hxb, hc⟩ := hx i hi
  exact ⟨x, ha, Nat.lt_of_lt_of_le hxb hb.size, fun j k hk => (hb.cell (by rw [Args.add_block, Args.add_block]; exact hxb)).trans (hc j k hk)⟩
theorem deedCells {w : World} {A : Option Addr} {m cap : Nat} {ds : List (List Int)} (h : Structs ks3 w (.slice A m cap) ds) {k : Nat} (hk : k < ds.length) :
    ∃ x : Addr, A = some x ∧ (-9223372036854775808 ≤ (deedOf (ds.getD k [])).t ∧ (deedOf (ds.getD k [])).t ≤ 9223372036854775807) ∧ (0 ≤ (deedOf (ds.getD k [])).x ∧ (deedOf (ds.getD k [])).x ≤ 18446744073709551615) ∧ ∀ w', Below w.heap.size w w' →
      (w'.cell? (x.add (k * 3)) = some (.int .i64 (deedOf (ds.getD k [])).k) ∧ w'.cell? ⟨(x.add (k * 3)).block, (x.add (k * 3)).off + 1, none⟩ = some (.int .i64 (deedOf (ds.getD k [])).t) ∧ w'.cell? ⟨(x.add (k * 3)).block, (x.add (k * 3)).off + 2, none⟩ = some (.int .u64 (deedOf (ds.getD k [])).x)) ∧ x.block < w.heap.size := by
  obtain ⟨⟨a, cap', hv, hl, hx⟩, hok⟩ := h
  obtain ⟨x, ha, hxb, hc⟩ := hx k hk
  have hA : A = a := by injection hv
  have o := hok k hk
  have r1 := o 1 _ rfl
  have r2 := o 2 _ rfl
  generalize ds.getD k [] = l at *
  refine ⟨x, hA.trans ha, r1, r2, fun w' hb => ⟨?_, hxb⟩⟩
  have blk : ∀ j, ((x.add (k * 3)).add j).block < w.heap.size := fun j => by rw [add_block, add_block]; exact hxb
  have c : ∀ (j : Nat) (kk : IntKind), ks3[j]? = some kk → w'.cell? ((x.add (k * 3)).add j) = some (.int kk (l.getD j 0)) := fun j kk hj => (hb.cell (blk j)).trans (hc j kk hj)
  have ad : ∀ j, 0 < j → (x.add (k * 3)).add j = ⟨(x.add (k * 3)).block, (x.add (k * 3)).off + j, none⟩ := fun j hj => by
    unfold Addr.add; split
    · omega
    · rfl
  have c0 := c 0 _ rfl
  rw [show (x.add (k * 3)).add 0 = x.add (k * 3) by unfold Addr.add; simp] at c0
  refine ⟨c0, ?_, ?_⟩
  · rw [← ad 1 (by omega), c 1 _ rfl]; rfl
  · rw [← ad 2 (by omega), c 2 _ rfl]; rfl

set_option maxHeartbeats 8000000 in
set_option maxRecDepth 100000 in
theorem awake (W : World) : Calls Try.prog 9 #[] W fun e w' => e = .returned (.bool true) ∧ Below W.heap.size W w' := by
  go_enter Try.func9, Try.ntmps9
  go_wp2_with fail
  refine (new 2 (by omega) (by omega) W).mono ?_
  rintro e w1 ⟨pb, mb, vin, rfl, p1, b1⟩
  change PoolR _ _ _ _ [-1, -1] _ _ _ at p1
  have B1 := Lib.hid b1
  have s1 := b1.size
  clear b1
  go_wp2_with fail
  refine (enter p1 0).mono ?_
  rintro e w2 ⟨rfl, p2, o2⟩
  rw [show enterE [-1, -1] 0 = 0 by decide]
  rw [show enterI [-1, -1] 0 0 = [0, -1] by decide] at p2
  have B2 := Lib.hid (B1.out.trans (poolB p1 o2 s1))
  have s2 := B2.out.size
  clear o2 p1
  go_wp2_with fail
  refine (retire p2 s2 (by omega) (by simp) (by simp [xsOf]) 7).mono ?_
  rintro e w3 ⟨rfl, v3, p3, o3, -⟩
  change PoolR _ _ _ _ _ _ [⟨0, v3, [7]⟩] _ at p3
  have B3 := Lib.hid (B2.out.trans (poolB p2 o3 s2))
  have s3 := B3.out.size
  clear o3 p2
  go_wp2_with fail
  refine (advance p3 (by simp) (by simp) (by omega)).mono ?_
  rintro e w4 ⟨rfl, p4, o4⟩
  rw [show advB [0, -1] 0 = true by decide]
  rw [show advE [0, -1] 0 = 1 by decide] at p4
  have B4 := Lib.hid (B3.out.trans (poolB p3 o4 s3))
  have s4 := B4.out.size
  clear o4 p3
  go_wp2_with fail
  refine (advance p4 (by simp) (by simp) (by omega)).mono ?_
  rintro e w5 ⟨rfl, p5, o5⟩
  rw [show advB [0, -1] 1 = false by decide]
  rw [show advE [0, -1] 1 = 1 by decide] at p5
  have B5 := Lib.hid (B4.out.trans (poolB p4 o5 s4))
  have s5 := B5.out.size
  clear o5 p4
  go_wp2_with fail
  refine (free p5 s5 (by simp) (fun k => by have := freed_take 1 [⟨0, v3, [7]⟩] k; simp [sumL] at this; omega) (fun g hg => by have hg : g = _ := List.mem_singleton.1 hg; subst hg; simp) (by omega)).mono ?_
  rintro e w6 ⟨v6, rfl, r6, p6, o6⟩
  change World.ownsRow _ _ _ _ v6 0 [] at r6
  change PoolR _ _ _ _ _ _ [⟨0, v3, [7]⟩] _ at p6
  obtain ⟨A6, c6, e6, -⟩ := own_any r6
  subst e6
  have B6 := Lib.hid (B5.out.trans (poolB p5 o6 s5))
  have s6 := B6.out.size
  clear o6 p5 r6
  go_wp2_with fail
  refine (exit p6 0).mono ?_
  rintro e w7 ⟨rfl, p7, o7⟩
  rw [show exitE [0, -1] 0 = 0 by decide]
  rw [show exitI [0, -1] 0 = [-1, -1] by decide] at p7
  have B7 := Lib.hid (B6.out.trans (poolB p6 o7 s6))
  have s7 := B7.out.size
  clear o7 p6
  go_wp2_with fail
  refine (advance p7 (by simp) (by simp) (by omega)).mono ?_
  rintro e w8 ⟨rfl, p8, o8⟩
  rw [show advB [-1, -1] 1 = true by decide]
  rw [show advE [-1, -1] 1 = 2 by decide] at p8
  have B8 := Lib.hid (B7.out.trans (poolB p7 o8 s7))
  have s8 := B8.out.size
  clear o8 p7
  go_wp2_with fail
  refine (free p8 s8 (by simp) (fun k => by have := freed_take 2 [⟨0, v3, [7]⟩] k; simp [sumL] at this; omega) (fun g hg => by have hg : g = _ := List.mem_singleton.1 hg; subst hg; simp) (by omega)).mono ?_
  rintro e w9 ⟨v9, rfl, r9, p9, o9⟩
  change World.ownsRow _ _ _ _ v9 1 [.int .u64 7] at r9
  change PoolR _ _ _ _ _ _ [] _ at p9
  have B9 := Lib.hid (B8.out.trans (poolB p8 o9 s8))
  have s9 := B9.out.size
  obtain ⟨g9, c9, e9, -, -, -, hl9, hx9, -⟩ := own_shape r9 (by omega)
  subst e9
  have x9 := hx9 0 (by omega)
  simp at x9
  clear o9 p8 r9 hx9
  have E9 := Lib.hid (epoch p9)
  have L9 := Lib.hid (left p9 (by simp [sumL]))
  clear p9
  go_wp2_with fail
  refine E9.out.mono ?_
  rintro e w' ⟨rfl, rfl⟩
  go_wp2_with fail
  refine L9.out.mono ?_
  rintro e wA ⟨rfl, bA⟩
  rw [show sumL [] = 0 from rfl]
  have BA := Lib.hid (B9.out.trans (bA.mono s9))
  clear bA
  go_wp2
  go_ret
  exact ⟨rfl, BA.out⟩
end Go.Proofs.Ytecjkpjcmgohmac.Ep
