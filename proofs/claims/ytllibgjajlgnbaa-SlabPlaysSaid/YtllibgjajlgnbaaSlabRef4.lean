/- The reference's slab: New. -/
import Derived.Test.YtllibgjajlgnbaaSlabRef3
namespace Go.Proofs.Ytllibgjajlgnbaa.SlabRef
open Go Go.RowKit Go.Proofs.Ytllibgjajlgnbaa.Only Go.Proofs.Ytllibgjajlgnbaa.Mem Go.Proofs.Ytllibgjajlgnbaa.New Go.Proofs.Ytllibgjajlgnbaa.Ref Go.Proofs.Ytllibgjajlgnbaa.Slab
set_option linter.unusedVariables false
set_option linter.unusedSimpArgs false

section
variable {B : Nat} {vC : Value} {C : List Int} {w : World}
theorem two_new (w : World) (X Y : Obj) : ((w.alloc X).alloc Y).heap[w.heap.size]? = some X ∧ ((w.alloc X).alloc Y).heap[w.heap.size + 1]? = some Y ∧ Below w.heap.size w ((w.alloc X).alloc Y) := by
  have n2 := heap_alloc_new (w.alloc X) Y
  rw [show (w.alloc X).heap.size = w.heap.size + 1 by simp] at n2
  exact ⟨(heap_alloc_old _ _ (by simp)).trans (heap_alloc_new w X), n2, ((Below.refl _ _).alloc (Nat.le_refl _) _).alloc (by simp) _⟩

set_option maxHeartbeats 8000000 in
set_option maxRecDepth 100000 in
theorem rnew_bad (h : RefAt B vC C w) (cnt words most : Int) (hw : words < 1 ∨ most < 1) (hw1 : -9223372036854775808 ≤ words ∧ words ≤ 9223372036854775807) (hm1 : -9223372036854775808 ≤ most ∧ most ≤ 9223372036854775807) :
    Calls Try.prog 47 #[.agg #[vC, .int .i64 cnt], .int .i64 words, .int .i64 most] w fun e w' => (∃ x, e = .returned (.tuple #[.agg x, .bool false])) ∧ Below w.heap.size w w' := by
  obtain ⟨AC, cC, e1, -⟩ := own_any h.own
  subst e1
  obtain ⟨x1, x2, x3⟩ := two_new w (.cells #[.slice AC C.length cC, .int .i64 cnt] 37) (.cells #[.slice none 0 0, .int .i64 0, .int .i64 0, .int .i64 0, .slice none 0 0, .slice none 0 0, .slice none 0 0] 52)
  obtain ⟨⟨y0, y1, y2, y3, y4, y5, y6⟩, -⟩ := cells7 (show X7 (w.heap.size + 1) _ _ from x2)
  clear h
  by_cases h1 : words < 1
  · have b1 : decide (words < 1) = true := decide_eq_true h1
    replace x3 := Lib.hid x3
    go_enter Try.func47, Try.ntmps47
    go_wp2
    refine bodyPost_ret (v := .tuple #[.agg #[.slice none 0 0, .int .i64 0, .int .i64 0, .int .i64 0, .slice none 0 0, .slice none 0 0, .slice none 0 0], .bool false]) (by simp [results, Try.results47, go_sem, y0, y1, y2, y3, y4, y5, y6]) rfl ⟨⟨_, rfl⟩, x3.out⟩
  · have b1 : decide (words < 1) = false := decide_eq_false h1
    have b2 : decide (most < 1) = true := decide_eq_true (by omega)
    replace x3 := Lib.hid x3
    go_enter Try.func47, Try.ntmps47
    go_wp2
    refine bodyPost_ret (v := .tuple #[.agg #[.slice none 0 0, .int .i64 0, .int .i64 0, .int .i64 0, .slice none 0 0, .slice none 0 0, .slice none 0 0], .bool false]) (by simp [results, Try.results47, go_sem, y0, y1, y2, y3, y4, y5, y6]) rfl ⟨⟨_, rfl⟩, x3.out⟩

def rowK (c : Nat) : List Value := ((List.range c).map (fun (j : Nat) => (j : Int))).map (Value.int .i64)
/-- New's loop. -/
structure RNew (o : Nat) (wb : World) (vC vG vT vR : Value) (C : List Int) (cnt f wd : Int) (a b c B : Nat) (wr : World) : Prop where
  x : X7 o #[vC, .int .i64 cnt, .int .i64 f, .int .i64 wd, vG, vT, vR] wr
  m : RefAt B vC C wr
  g : wr.ownsRow o 3 1 vG a (List.replicate a (Value.int .i64 0))
  t : wr.ownsRow o 4 1 vT b (List.replicate b (Value.bool false))
  r : wr.ownsRow o 3 1 vR c (rowK c)
  ap : ∀ k, vG.ownBlock = some k → vR.ownBlock ≠ some k
  b : Below o wb wr
  bo : o ≤ wb.heap.size

section
variable {o a b c k : Nat} {wb wr w5 : World} {vG vT vR v1 : Value} {cnt f wd : Int} {X : Obj}
theorem own_bel {T : TypeId} {n : Nat} {v : Value} {xs : List Value} (h : Below o wb wr) (bo : o ≤ wb.heap.size) (hv : wr.ownsRow o T 1 v n xs) (hg : (wr.alloc X).grownBy w5 v.ownBlock) : Below o wb w5 :=
  bel_grown (h.alloc (Nat.le_trans bo h.size) X) hg (fun k hk => (own_lt hv hk).1) (le_alloc (Nat.le_trans bo h.size) X)
theorem ref_far {B q o : Nat} {vC : Value} {C : List Int} {d : Array Value} {w : World} (h : RefAt B vC C w) (hx : X7 q d w) (u : Value) : RefAt B vC C (w.setCell ⟨q, o, none⟩ u) := ⟨own_far h.own (ne_of_own hx h.own (by decide)) u, h.most, h.pos⟩
theorem RNew.stepG (I : RNew o wb vC vG vT vR C cnt f wd a b c B wr) (hv : w5.ownsRow o 3 1 v1 (a + 1) (List.replicate a (Value.int .i64 0) ++ [.int .i64 0])) (hg : (wr.alloc X).grownBy w5 vG.ownBlock) (hat : v1.ownBlock = vG.ownBlock ∨ v1.ownBlock = some (wr.heap.size + 1)) :
    RNew o wb vC v1 vT vR C cnt f wd (a + 1) b c B (w5.setCell ⟨o, 4, none⟩ v1) := by
  have gA := own_alloc I.g X
  have x5 := (I.x.alloc X).grown gA hg (by decide)
  have m5 : RefAt B vC C w5 := ⟨own_grown (own_alloc I.m.own X) gA hg (by decide), I.m.most, I.m.pos⟩
  have t5 := own_grown (own_alloc I.t X) gA hg (by decide)
  have r5 := own_grown' (own_alloc I.r X) hg (fun k hk e => I.ap k e hk)
  have b5 := own_bel I.b I.bo I.g hg
  refine ⟨set7_4 x5 _, ref_far m5 x5 _, ?_, own_far t5 (ne_of_own x5 t5 (by decide)) _, own_far r5 (ne_of_own x5 r5 (by decide)) _, fun k hk e => ?_, b5.setCell (p := ⟨o, 4, none⟩) (Nat.le_refl _) _, I.bo⟩
  · have := own_far (k := o) (o := 4) hv (ne_of_own x5 hv (by decide)) v1
    rw [List.replicate_succ']
    exact this
  · rcases hat with q | q
    · exact I.ap k (q ▸ hk) e
    · have := (own_lt I.r e).2
      rw [q] at hk
      simp at hk
      omega
theorem RNew.stepT (I : RNew o wb vC vG vT vR C cnt f wd a b c B wr) (hv : w5.ownsRow o 4 1 v1 (b + 1) (List.replicate b (Value.bool false) ++ [.bool false])) (hg : (wr.alloc X).grownBy w5 vT.ownBlock) :
    RNew o wb vC vG v1 vR C cnt f wd a (b + 1) c B (w5.setCell ⟨o, 5, none⟩ v1) := by
  have gA := own_alloc I.t X
  have x5 := (I.x.alloc X).grown gA hg (by decide)
  have m5 : RefAt B vC C w5 := ⟨own_grown (own_alloc I.m.own X) gA hg (by decide), I.m.most, I.m.pos⟩
  have t5 := own_grown (own_alloc I.g X) gA hg (by decide)
  have r5 := own_grown (own_alloc I.r X) gA hg (by decide)
  have b5 := own_bel I.b I.bo I.t hg
  refine ⟨set7_5 x5 _, ref_far m5 x5 _, own_far t5 (ne_of_own x5 t5 (by decide)) _, ?_, own_far r5 (ne_of_own x5 r5 (by decide)) _, I.ap, b5.setCell (p := ⟨o, 5, none⟩) (Nat.le_refl _) _, I.bo⟩
  have := own_far (k := o) (o := 5) hv (ne_of_own x5 hv (by decide)) v1
  rw [List.replicate_succ']
  exact this
theorem RNew.stepR (I : RNew o wb vC vG vT vR C cnt f wd a b c B wr) (hv : w5.ownsRow o 3 1 v1 (c + 1) (rowK c ++ [.int .i64 (c : Int)])) (hg : (wr.alloc X).grownBy w5 vR.ownBlock) (hat : v1.ownBlock = vR.ownBlock ∨ v1.ownBlock = some (wr.heap.size + 1)) :
    RNew o wb vC vG vT v1 C cnt f wd a b (c + 1) B (w5.setCell ⟨o, 6, none⟩ v1) := by
  have gA := own_alloc I.r X
  have x5 := (I.x.alloc X).grown gA hg (by decide)
  have m5 : RefAt B vC C w5 := ⟨own_grown (own_alloc I.m.own X) gA hg (by decide), I.m.most, I.m.pos⟩
  have t5 := own_grown (own_alloc I.t X) gA hg (by decide)
  have g5 := own_grown' (own_alloc I.g X) hg (fun k hk e => I.ap k hk e)
  have b5 := own_bel I.b I.bo I.r hg
  refine ⟨set7_6 x5 _, ref_far m5 x5 _, own_far g5 (ne_of_own x5 g5 (by decide)) _, own_far t5 (ne_of_own x5 t5 (by decide)) _, ?_, fun k hk e => ?_, b5.setCell (p := ⟨o, 6, none⟩) (Nat.le_refl _) _, I.bo⟩
  · have := own_far (k := o) (o := 6) hv (ne_of_own x5 hv (by decide)) v1
    unfold rowK at this ⊢
    rw [List.range_succ, List.map_append, List.map_append]
    exact this
  · rcases hat with q | q
    · exact I.ap k hk (q ▸ e)
    · have := (own_lt I.g hk).2
      rw [q] at e
      simp at e
      omega
end

def RNewed (B : Nat) (cnt : Int) (C : List Int) (words most : Nat) (w : World) (e : Ending) (w' : World) : Prop :=
  ∃ vC vG vT vR, e = .returned (.tuple #[.agg (xv vC cnt (newS C.length words most most) vG vT vR), .bool true]) ∧ RefSl B vC vG vT vR (C ++ List.replicate (words * most) 0) (newS C.length words most most) w' ∧ Below w.heap.size w w'

set_option maxHeartbeats 16000000 in
set_option maxRecDepth 100000 in
theorem rnew (h : RefAt B vC C w) (hB : B ≤ w.heap.size) (cnt : Int) (words most : Nat) (hw : 1 ≤ words) (hm : 1 ≤ most) (hfit : C.length + words * most ≤ 65536) :
    Calls Try.prog 47 #[.agg #[vC, .int .i64 cnt], .int .i64 words, .int .i64 most] w (RNewed B cnt C words most w) := by
  obtain ⟨i0, hi, hzz⟩ := Option.map_eq_some_iff.1 info_int
  simp only [Prod.mk.injEq] at hzz
  obtain ⟨hz0, hz1, hz2⟩ := hzz
  obtain ⟨ib, hib, hzz⟩ := Option.map_eq_some_iff.1 info_bool
  simp only [Prod.mk.injEq] at hzz
  obtain ⟨hb0, hb1, hb2⟩ := hzz
  have hww : words ≤ words * most := Nat.le_mul_of_pos_right _ hm
  have hmm : most ≤ words * most := Nat.le_mul_of_pos_left _ hw
  have b1 : decide ((words : Int) < 1) = false := decide_eq_false (by omega)
  have b2 : decide ((most : Int) < 1) = false := decide_eq_false (by omega)
  have b3 : decide ((65536 : Int) < (words : Int)) = false := decide_eq_false (by omega)
  have b4 : decide ((65536 : Int) < (most : Int)) = false := decide_eq_false (by omega)
  have ec : ((words * most : Nat) : Int) = (words : Int) * (most : Int) := by simp
  have e1 : IntKind.i64.wrap ((words : Int) * (most : Int)) = (words : Int) * (most : Int) := IntWalk.i64_in _ (by rw [← ec]; omega)
  obtain ⟨AC, cC, e2, -⟩ := own_any h.own
  subst e2
  obtain ⟨x1, x2, x3⟩ := two_new w (.cells #[.slice AC C.length cC, .int .i64 cnt] 37) (.cells #[.slice none 0 0, .int .i64 0, .int .i64 0, .int .i64 0, .slice none 0 0, .slice none 0 0, .slice none 0 0] 52)
  have h1 := h.below x3
  have hg := RefX.grow _ _ _ _ h1 (Nat.le_trans hB x3.size) cnt (words * most) hfit
  rw [ec] at hg
  replace hg := Lib.hid hg
  replace x2 := Lib.hid x2
  replace x3 := Lib.hid x3
  clear h h1 x1 ec
  go_enter Try.func47, Try.ntmps47
  go_wp2_with fail
  refine hg.out.mono ?_
  rintro e w3 ⟨s', rfl, nx⟩
  obtain ⟨A1, c1, e2, -⟩ := own_any nx.ref.own
  subst e2
  have el : (C ++ List.replicate (words * most) 0).length = C.length + words * most := by simp
  have sz3 := nx.bel.size
  have X3 := (show X7 (w.heap.size + 1) _ _ from x2.out).below nx.bel
  have hlx := X7.lt X3
  have Bel3 := x3.out.trans (nx.bel.mono x3.out.size)
  have R3 := nx.ref
  generalize hD : C ++ List.replicate (words * most) 0 = D at *
  obtain ⟨z1, z2, z3⟩ := two_new w3 (.cells #[.slice A1 D.length c1, .int .i64 cnt] 37) (.cells #[.slice A1 D.length c1, .int .i64 cnt, .int .i64 C.length, .int .i64 words, .slice none 0 0, .slice none 0 0, .slice none 0 0] 52)
  have R4 := R3.below z3
  have X4 := X3.below z3
  have Bel4 := Bel3.trans (z3.mono Bel3.size)
  have lt3 : w.heap.size < w3.heap.size := by omega
  replace z1 := Lib.hid z1
  replace z2 := Lib.hid z2
  replace z3 := Lib.hid z3
  replace R4 := Lib.hid R4
  replace X4 := Lib.hid X4
  replace Bel4 := Lib.hid Bel4
  replace hD := Lib.hid hD
  clear nx x2 x3 X3 Bel3 R3 hg el
  go_upto_region 7 with fail
  generalize ((w3.alloc (.cells #[.slice A1 D.length c1, .int .i64 cnt] 37)).alloc (.cells #[.slice A1 D.length c1, .int .i64 cnt, .int .i64 C.length, .int .i64 words, .slice none 0 0, .slice none 0 0, .slice none 0 0] 52)) = wS at *
  have I0 : RNew (w3.heap.size + 1) wS (.slice A1 D.length c1) (.slice none 0 0) (.slice none 0 0) (.slice none 0 0) D cnt C.length words 0 0 0 B wS :=
    ⟨z2.out, R4.out, ⟨rfl, .inl ⟨rfl, rfl⟩⟩, ⟨rfl, .inl ⟨rfl, rfl⟩⟩, ⟨rfl, .inl ⟨rfl, rfl⟩⟩, fun k e => by simp [Value.ownBlock] at e, Below.refl _ _, Nat.le_of_lt (X7.lt z2.out)⟩
  replace I0 := Lib.hid I0
  clear z1 z2 z3 R4
  have hmx : most ≤ 65536 := by omega
  have hoo : w.heap.size ≤ w3.heap.size + 1 := by omega
  go_wp2_with fail
  go_loopw [12] (fun c wr => ∃ (k : Nat) (vG vT vR : Value), k ≤ most ∧ c = .int .i64 k ∧ Hid (RNew (w3.heap.size + 1) wS (.slice A1 D.length c1) vG vT vR D cnt C.length words k k k B wr))
    (fun c _ => most - (intOf c).toNat)
  case atStart => exact ⟨0, _, _, _, by omega, rfl, I0⟩
  case round =>
    clear I0
    obtain ⟨k, vG, vT, vR, hk, rfl, I⟩ := hrel
    obtain ⟨AG, cG, q1, -⟩ := own_any I.out.g
    obtain ⟨AT, cT, q2, -⟩ := own_any I.out.t
    obtain ⟨AR, cR, q3, -⟩ := own_any I.out.r
    subst q1 q2 q3
    obtain ⟨⟨o0, o1, o2, o3, o4, o5, o6⟩, -⟩ := cells7 I.out.x
    have hob : w3.heap.size + 1 ≤ wr.heap.size := Nat.le_of_lt (X7.lt I.out.x)
    have hlt0 : w3.heap.size + 1 < wr.heap.size := X7.lt I.out.x
    by_cases hlt : k < most
    · have bk : decide ((k : Int) < (most : Int)) = true := decide_eq_true (by omega)
      have hm1 : k + 1 ≤ maxLen := by unfold maxLen; omega
      have hn8 : (k + 1) * 8 ≤ 140737488355328 := by omega
      have hn1 : (k + 1) * 1 ≤ 140737488355328 := by omega
      have hown := own_alloc I.out.g (.cells #[.int .i64 0] 3)
      go_wp2_with (at_builtin; refine wpList_append_own_at _ rfl _ _ 49 rfl (w3.heap.size + 1) 3 i0 (.int .i64 0) 1 8 Try.underlying49 hi hz0 hz1 hz2 rfl (by decide) _ _ _ rfl hown ⟨wr.heap.size, 0, none⟩ 1 1 [.int .i64 0] rfl rfl (cell_one_new _ _ _) (ints_one [(0 : Int)]) hm1 hn8 (le_alloc hob _) ?_)
      intro v1 w5 hv1 hg1 _ hat1
      have x5 := (I.out.x.alloc (.cells #[.int .i64 0] 3)).grown hown hg1 (by decide)
      have I1 := I.out.stepG hv1 hg1 hat1
      obtain ⟨A2, c2, q1, -⟩ := own_any hv1
      subst q1
      have s5 := hg1.size
      have f4 := (cells7 x5).2 4
      have p4 := (cells7 x5).1.2.2.2.2.1
      replace I1 := Lib.hid I1
      clear hown hv1 hg1 hat1 x5 o0 o1 o2 o3 o4 o5 o6 I
      go_upto_region 11 with fail
      generalize (w5.setCell ⟨w3.heap.size + 1, 4, none⟩ (.slice A2 (k + 1) c2)) = w6 at *
      clear f4 p4 s5
      obtain ⟨⟨o0, o1, o2, o3, o4, o5, o6⟩, -⟩ := cells7 I1.out.x
      have hob6 : w3.heap.size + 1 ≤ w6.heap.size := Nat.le_of_lt (X7.lt I1.out.x)
      have hlt6 : w3.heap.size + 1 < w6.heap.size := X7.lt I1.out.x
      have hown := own_alloc I1.out.t (.cells #[.bool false] 4)
      go_wp2_with (at_builtin; refine wpList_append_own_at _ rfl _ _ 50 rfl (w3.heap.size + 1) 4 ib (.bool false) 1 1 Try.underlying50 hib hb0 hb1 hb2 rfl (by decide) _ _ _ rfl hown ⟨w6.heap.size, 0, none⟩ 1 1 [.bool false] rfl rfl (cell_one_new _ _ _) (bools_one [false]) hm1 hn1 (le_alloc hob6 _) ?_)
      intro v2 w7 hv2 hg2 _ hat2
      have x7 := (I1.out.x.alloc (.cells #[.bool false] 4)).grown hown hg2 (by decide)
      have I2 := I1.out.stepT hv2 hg2
      obtain ⟨A3, c3, q2, -⟩ := own_any hv2
      subst q2
      have f5 := (cells7 x7).2 5
      have p5 := (cells7 x7).1.2.2.2.2.2.1
      replace I2 := Lib.hid I2
      clear hown hv2 hg2 hat2 x7 o0 o1 o2 o3 o4 o5 o6 I1
      go_upto_region 12 with fail
      generalize (w7.setCell ⟨w3.heap.size + 1, 5, none⟩ (.slice A3 (k + 1) c3)) = w8 at *
      clear f5 p5
      obtain ⟨⟨o0, o1, o2, o3, o4, o5, o6⟩, -⟩ := cells7 I2.out.x
      have hob8 : w3.heap.size + 1 ≤ w8.heap.size := Nat.le_of_lt (X7.lt I2.out.x)
      have hlt8 : w3.heap.size + 1 < w8.heap.size := X7.lt I2.out.x
      have hown := own_alloc I2.out.r (.cells #[.int .i64 (k : Int)] 3)
      go_wp2_with (at_builtin; refine wpList_append_own_at _ rfl _ _ 49 rfl (w3.heap.size + 1) 3 i0 (.int .i64 0) 1 8 Try.underlying49 hi hz0 hz1 hz2 rfl (by decide) _ _ _ rfl hown ⟨w8.heap.size, 0, none⟩ 1 1 [.int .i64 (k : Int)] rfl rfl (cell_one_new _ _ _) (ints_one [(k : Int)]) hm1 hn8 (le_alloc hob8 _) ?_)
      intro v3 w9 hv3 hg3 _ hat3
      have x9 := (I2.out.x.alloc (.cells #[.int .i64 (k : Int)] 3)).grown hown hg3 (by decide)
      have I3 := I2.out.stepR hv3 hg3 hat3
      obtain ⟨A4, c4, q3, -⟩ := own_any hv3
      subst q3
      have f6 := (cells7 x9).2 6
      have p6 := (cells7 x9).1.2.2.2.2.2.2
      replace I3 := Lib.hid I3
      clear hown hv3 hg3 hat3 x9 o0 o1 o2 o3 o4 o5 o6 I2
      go_wp2_with fail
      exact ⟨⟨k + 1, _, _, _, by omega, by go_num, I3⟩, by simp [intOf]; omega⟩
    · obtain rfl : k = most := by omega
      have bk : decide ((k : Int) < (k : Int)) = false := by simp
      have Belr := Bel4.out.trans (I.out.b.mono hoo)
      have X0 : X7 (w.heap.size + 1) _ wr := (I.out.b.block (w.heap.size + 1) (by omega)).trans X4.out
      obtain ⟨⟨d0, d1, d2, d3, d4, d5, d6⟩, fx⟩ := cells7 X0
      have f0 := fx 0
      have f1 := fx 1
      have f2 := fx 2
      have f3 := fx 3
      have f4 := fx 4
      have f5 := fx 5
      have f6 := fx 6
      obtain ⟨w9, e9, ⟨y0, y1, y2, y3, y4, y5, y6⟩, b9, on9⟩ := end7 X0 Belr (by omega) (.slice A1 D.length c1) (.int .i64 cnt) (.int .i64 C.length) (.int .i64 words) (.slice AG k cG) (.slice AT k cT) (.slice AR k cR)
      have hBo : B ≤ w3.heap.size + 1 := by omega
      have hrn : ∃ g cap, (Value.slice AR k cR) = .slice (some ⟨g, 0, none⟩) (newS C.length words k k).row.length cap := by
        obtain ⟨g', c', hv', -⟩ := own_shape I.out.r (by omega)
        exact ⟨g', c', by rw [hv']; simp [newS]⟩
      have S8 : RefSl B (.slice A1 D.length c1) (.slice AG k cG) (.slice AT k cT) (.slice AR k cR) D (newS C.length words k k) wr := by
        refine ⟨I.out.m, ?_, ?_, ?_, hrn⟩
        · have := own_mono I.out.g hBo
          simpa [newS] using this
        · have := own_mono I.out.t hBo
          simpa [newS] using this
        · have := own_mono I.out.r hBo
          unfold rowK at this
          simpa [newS] using this
      have S9 := S8.keepX X0 on9
      replace S9 := Lib.hid S9
      replace b9 := Lib.hid b9
      replace e9 := Lib.hid e9
      clear X0 fx on9 I S8 hrn Belr
      go_wp2
      rw [← e9.out]
      refine bodyPost_ret (v := .tuple #[.agg #[.slice A1 D.length c1, .int .i64 cnt, .int .i64 C.length, .int .i64 words, .slice AG k cG, .slice AT k cT, .slice AR k cR], .bool true]) (by simp [results, Try.results47, go_sem, y0, y1, y2, y3, y4, y5, y6]) rfl ⟨_, _, _, _, rfl, ?_, b9.out⟩
      rw [hD.out]
      exact S9.out
end
end Go.Proofs.Ytllibgjajlgnbaa.SlabRef
