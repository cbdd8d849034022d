/- The reference's pool: Enter, Exit. Laid by genepref2.py. -/
import Derived.Test.YtecjkpjcmgohmacEpRef
namespace Go.Proofs.Ytecjkpjcmgohmac.EpRef
open Go Go.RowKit Go.Maps Go.Proofs.Ytecjkpjcmgohmac.Only Go.Proofs.Ytecjkpjcmgohmac.Ep
set_option linter.unusedVariables false
set_option linter.unusedSimpArgs false

section
variable {B : Nat} {vI vR : Value} {inn : List Int} {R : List (Int × Int)} {w : World}
set_option maxHeartbeats 8000000 in
set_option maxRecDepth 100000 in
theorem renter (h : RefP B vI inn vR R w) (hB : B ≤ w.heap.size) (hl : inn.length ≤ 1000) (ep t : Int) :
    Calls Try.prog 23 #[.agg (xv vI ep vR), .int .i64 t] w (RTo B vI vR (renterI inn ep t) ep R [.int .i64 (renterE inn t)] w) := by
  obtain ⟨i0, hi, hzz⟩ := Option.map_eq_some_iff.1 info_int
  simp only [Prod.mk.injEq] at hzz
  obtain ⟨hz0, hz1, hz2⟩ := hzz
  obtain ⟨AI, cI, e1, -⟩ := own_any' h.i
  obtain ⟨AR, cR, e2, -⟩ := own_any' h.r
  subst e1 e2
  obtain ⟨w1, hw1, ha, hx, hb, s1⟩ := two3 w (xv (.slice AI inn.length cI) ep (.slice AR R.length cR)) (.slice none 0 0) (.slice none 0 0)
  have RF := h.below hb
  unfold xv at *
  obtain ⟨⟨c0, c1, c2⟩, -⟩ := cellsX ha
  replace hw1 := Lib.hid hw1.symm
  have hlt0 : w.heap.size < w1.heap.size := by omega
  have hlt1 : w.heap.size + 1 < w1.heap.size := by omega
  unfold renterI renterE
  cases hth : thereP inn t with
  | false =>
    rw [if_neg (by simp), if_neg (by simp)]
    have ht : t < 0 ∨ (inn.length : Int) ≤ t := by
      unfold thereP at hth
      simp at hth
      omega
    have b1 : decide ((inn.length : Int) ≤ t) = decide (0 ≤ t) := by
      by_cases h0 : t < 0
      · rw [decide_eq_false (by omega), decide_eq_false (by omega)]
      · rw [decide_eq_true (by omega), decide_eq_true (by omega)]
    by_cases h0 : t < 0
    · have b0 : decide (t < 0) = true := decide_eq_true h0
      clear b1 ht
      have bN : Below w.heap.size w ((w.alloc (.cells #[.slice AI inn.length cI, .int .i64 ep, .slice AR R.length cR] 35)).alloc (.cells #[.slice AI inn.length cI, .int .i64 ep, .slice AR R.length cR] 35)) := ((Below.refl _ _).alloc (Nat.le_refl _) _).alloc (by simp) _
      have PN := Lib.hid (h.below bN)
      replace bN := Lib.hid bN
      clear h ha hx hb hw1 RF c0 c1 c2
      go_enter Try.func23, Try.ntmps23
      go_wp2
      exact bodyPost_ret (v := .tuple #[.agg #[.slice AI inn.length cI, .int .i64 ep, .slice AR R.length cR], .int .i64 1]) (by simp [results, Try.results23, go_sem]) rfl ⟨_, _, rfl, PN.out, bN.out, fun k hk => .inl hk⟩
    · have b0 : decide (t < 0) = false := decide_eq_false h0
      rw [decide_eq_true (show 0 ≤ t by omega)] at b1
      clear ht
      have bN : Below w.heap.size w ((w.alloc (.cells #[.slice AI inn.length cI, .int .i64 ep, .slice AR R.length cR] 35)).alloc (.cells #[.slice AI inn.length cI, .int .i64 ep, .slice AR R.length cR] 35)) := ((Below.refl _ _).alloc (Nat.le_refl _) _).alloc (by simp) _
      have PN := Lib.hid (h.below bN)
      replace bN := Lib.hid bN
      clear h ha hx hb hw1 RF c0 c1 c2
      go_enter Try.func23, Try.ntmps23
      go_wp2
      exact bodyPost_ret (v := .tuple #[.agg #[.slice AI inn.length cI, .int .i64 ep, .slice AR R.length cR], .int .i64 1]) (by simp [results, Try.results23, go_sem]) rfl ⟨_, _, rfl, PN.out, bN.out, fun k hk => .inl hk⟩
  | true =>
    obtain ⟨i, rfl, hil⟩ := thereP_nat hth
    obtain ⟨g, c, e1, -, -, -, hlg, hxi, hfi⟩ := own_shape RF.i (by omega)
    injection e1 with q1 q2 q3
    subst q1 q3
    have xi := hxi i hil
    have ei : (inn.map (Value.int .i64)).getD i (.bool false) = .int .i64 (inn.getD i 0) := by simp [List.getD, hil]
    rw [ei] at xi
    have ea : inAt inn (i : Int) = inn.getD i 0 := rfl
    rw [if_pos rfl, ea]
    simp only [Int.toNat_natCast]
    have b0 : decide ((i : Int) < 0) = false := decide_eq_false (by omega)
    have b1 : decide ((inn.length : Int) ≤ (i : Int)) = false := decide_eq_false (by omega)
    have b2 : decide ((i : Int) < (inn.length : Int)) = true := decide_eq_true (by omega)
    generalize inn.getD i 0 = x at *
    clear hxi hfi ei ea
    by_cases h1 : 0 ≤ x
    · have b3 : decide (0 ≤ x) = true := decide_eq_true h1
      rw [if_neg (by omega), if_neg (by omega)]
      have bN : Below w.heap.size w ((w.alloc (.cells #[.slice (some ⟨g, 0, none⟩) inn.length cI, .int .i64 ep, .slice AR R.length cR] 35)).alloc (.cells #[.slice (some ⟨g, 0, none⟩) inn.length cI, .int .i64 ep, .slice AR R.length cR] 35)) := ((Below.refl _ _).alloc (Nat.le_refl _) _).alloc (by simp) _
      have PN := Lib.hid (h.below bN)
      replace bN := Lib.hid bN
      rw [← hw1.out] at xi
      clear h ha hx hb hw1 RF c0 c1 c2
      go_enter Try.func23, Try.ntmps23
      go_wp2
      exact bodyPost_ret (v := .tuple #[.agg #[.slice (some ⟨g, 0, none⟩) inn.length cI, .int .i64 ep, .slice AR R.length cR], .int .i64 8]) (by simp [results, Try.results23, go_sem]) rfl ⟨_, _, rfl, PN.out, bN.out, fun k hk => .inl hk⟩
    · have b3 : decide (0 ≤ x) = false := decide_eq_false h1
      rw [if_pos (by simp; omega), if_pos (by omega)]
      have q1 : w.heap.size ≤ w1.heap.size := by omega
      have hm1 : 0 + inn.length ≤ maxLen := by unfold maxLen; omega
      have hn1 : (0 + inn.length) * 8 ≤ 140737488355328 := by omega
      replace ha := Lib.hid ha
      replace hx := Lib.hid hx
      replace hb := Lib.hid hb
      replace RF := Lib.hid RF
      clear h
      go_enter Try.func23, Try.ntmps23
      go_upto_region 3 with fail
      rw [hw1.out]
      have hE : ((w1.alloc (.cells #[.slice (some ⟨g, 0, none⟩) inn.length cI, .int .i64 ep, .slice AR R.length cR] 35)).alloc (.cells #[] 3)).ownsRow w.heap.size 3 1 (.slice (some ⟨w1.heap.size + 1, 0, none⟩) 0 0) 0 [] := by
        have := newEmpty (w1.alloc (.cells #[.slice (some ⟨g, 0, none⟩) inn.length cI, .int .i64 ep, .slice AR R.length cR] 35)) 3 w.heap.size 1 (le_alloc q1 _)
        simpa using this
      go_wp2_with (at_builtin; refine wpList_append_own_at _ rfl _ _ 32 rfl w.heap.size 3 i0 (.int .i64 0) 1 8 Try.underlying32 hi hz0 hz1 hz2 rfl (by decide) _ _ _ rfl hE ⟨g, 0, none⟩ inn.length cI (inn.map (Value.int .i64)) rfl (by simp) ((own_alloc (own_alloc RF.out.i _) _).cells (g := g) rfl) (ints_one _) hm1 hn1 (le_alloc (le_alloc q1 _) _) ?_)
      intro v1 w4 hv1 hg1 _ hat1
      have Bel1 : Below w1.heap.size w1 w4 := bel_grown (((Below.refl _ _).alloc (Nat.le_refl _) _).alloc (le_alloc (Nat.le_refl _) _) _) hg1 (fun k hk => by simp [Value.ownBlock] at hk; omega) (le_alloc (le_alloc (Nat.le_refl _) _) _)
      have O1 : X3 w1.heap.size #[.slice (some ⟨g, 0, none⟩) inn.length cI, .int .i64 ep, .slice AR R.length cR] w4 := X3.grown (X3.alloc (heap_alloc_new w1 _) _) hE hg1 (by decide)
      obtain ⟨t1, ct1, e1, hBt1, -, -, hlt1', xt1, ft1⟩ := own_shape hv1 (by omega)
      subst e1
      have nto : ¬ w1.heap.size = t1 := fun e => O1.ne hv1 (by decide) (by rw [e]; rfl)
      have nto' : ¬ t1 = w1.heap.size := fun e => nto e.symm
      have ht1 : w1.heap.size ≤ t1 := by
        rcases hat1 with e | e <;> simp [Value.ownBlock] at e <;> omega
      have ft := ft1 i
      have xt := xt1 i hil
      clear c0 c1 c2 xt1 ft1 hg1 hat1
      obtain ⟨⟨o0, o1, o2⟩, fo⟩ := cellsX O1
      have fo0 := fo 0
      obtain ⟨⟨c0, c1, c2⟩, -⟩ := cellsX (ha.out.below Bel1)
      have s4 : w1.heap.size ≤ w4.heap.size := Bel1.size
      have O5 := (set3_0 O1 (.slice (some ⟨t1, 0, none⟩) inn.length ct1)).set (k := t1) (o := i) nto (.int .i64 ep)
      have T5 := own_set (own_far (k := w1.heap.size) (o := 0) hv1 (O1.ne hv1 (by decide)) (.slice (some ⟨t1, 0, none⟩) inn.length ct1)) i hil (.int .i64 ep)
      rw [← List.map_set] at T5
      have Bel5 := (Bel1.setCell (p := ⟨w1.heap.size, 0, none⟩) (Nat.le_refl _) (.slice (some ⟨t1, 0, none⟩) inn.length ct1)).setCell (p := ⟨t1, i, none⟩) ht1 (.int .i64 ep)
      have R5 := RF.out.below Bel5
      have X5 := hx.out.below Bel5
      have bel5 := hb.out.trans (Bel5.mono q1)
      have S5 : RefP B (.slice (some ⟨t1, 0, none⟩) inn.length ct1) (inn.set i ep) (.slice AR R.length cR) R ((w4.setCell ⟨w1.heap.size, 0, none⟩ (.slice (some ⟨t1, 0, none⟩) inn.length ct1)).setCell ⟨t1, i, none⟩ (.int .i64 ep)) := ⟨by have := own_mono T5 hB; simpa using this, R5.r⟩
      have nn0 : w.heap.size + 1 < w4.heap.size := by omega
      have nn1 : ¬ w1.heap.size = w.heap.size + 1 := by omega
      have nn2 : ¬ w.heap.size + 1 = w1.heap.size := by omega
      have nn3 : ¬ t1 = w.heap.size + 1 := by omega
      have nn4 : ¬ w.heap.size + 1 = t1 := by omega
      have nn5 : ¬ w.heap.size = w1.heap.size := by omega
      have nn6 : ¬ w1.heap.size = w.heap.size := by omega
      have nn7 : ¬ t1 = w.heap.size := by omega
      have nn8 : ¬ w.heap.size = t1 := by omega
      have hw4o : w1.heap.size < w4.heap.size := O1.lt
      obtain ⟨⟨d0, d1, d2⟩, fd⟩ := cellsX (hx.out.below Bel1)
      have fd0 := fd 0
      have fd1 := fd 1
      have fd2 := fd 2
      obtain ⟨w9, e9, ⟨y0, y1, y2⟩, b9, on9⟩ := end3 X5 bel5 (by omega) (.slice (some ⟨t1, 0, none⟩) inn.length ct1) (.int .i64 ep) (.slice AR R.length cR)
      have P9 := Lib.hid (S5.keepX X5 on9)
      have fr : ∀ k, OwnP (.slice (some ⟨t1, 0, none⟩) inn.length ct1) (.slice AR R.length cR) k → OwnP (.slice (some ⟨g, 0, none⟩) inn.length cI) (.slice AR R.length cR) k ∨ w.heap.size ≤ k := by
        rintro k (e | e)
        · injection e with e; subst e; exact .inr (by show w.heap.size ≤ t1; omega)
        · exact .inl (.inr e)
      replace fr := Lib.hid fr
      replace b9 := Lib.hid b9
      replace e9 := Lib.hid e9
      clear O1 Bel1 O5 T5 Bel5 R5 X5 bel5 S5 on9 hv1 fo fd hE
      go_wp2
      rw [← e9.out]
      exact bodyPost_ret (v := .tuple #[.agg #[.slice (some ⟨t1, 0, none⟩) inn.length ct1, .int .i64 ep, .slice AR R.length cR], .int .i64 0]) (by simp [results, Try.results23, go_sem, y0, y1, y2]) rfl ⟨_, _, rfl, P9.out, b9.out, fr.out⟩
set_option maxHeartbeats 8000000 in
set_option maxRecDepth 100000 in
theorem rexit (h : RefP B vI inn vR R w) (hB : B ≤ w.heap.size) (hl : inn.length ≤ 1000) (ep t : Int) :
    Calls Try.prog 24 #[.agg (xv vI ep vR), .int .i64 t] w (RTo B vI vR (rexitI inn t) ep R [.int .i64 (rexitE inn t)] w) := by
  obtain ⟨i0, hi, hzz⟩ := Option.map_eq_some_iff.1 info_int
  simp only [Prod.mk.injEq] at hzz
  obtain ⟨hz0, hz1, hz2⟩ := hzz
  obtain ⟨AI, cI, e1, -⟩ := own_any' h.i
  obtain ⟨AR, cR, e2, -⟩ := own_any' h.r
  subst e1 e2
  obtain ⟨w1, hw1, ha, hx, hb, s1⟩ := two3 w (xv (.slice AI inn.length cI) ep (.slice AR R.length cR)) (.slice none 0 0) (.slice none 0 0)
  have RF := h.below hb
  unfold xv at *
  obtain ⟨⟨c0, c1, c2⟩, -⟩ := cellsX ha
  replace hw1 := Lib.hid hw1.symm
  have hlt0 : w.heap.size < w1.heap.size := by omega
  have hlt1 : w.heap.size + 1 < w1.heap.size := by omega
  unfold rexitI rexitE
  cases hth : thereP inn t with
  | false =>
    rw [if_neg (by simp), if_neg (by simp)]
    have ht : t < 0 ∨ (inn.length : Int) ≤ t := by
      unfold thereP at hth
      simp at hth
      omega
    have b1 : decide ((inn.length : Int) ≤ t) = decide (0 ≤ t) := by
      by_cases h0 : t < 0
      · rw [decide_eq_false (by omega), decide_eq_false (by omega)]
      · rw [decide_eq_true (by omega), decide_eq_true (by omega)]
    by_cases h0 : t < 0
    · have b0 : decide (t < 0) = true := decide_eq_true h0
      clear b1 ht
      have bN : Below w.heap.size w ((w.alloc (.cells #[.slice AI inn.length cI, .int .i64 ep, .slice AR R.length cR] 35)).alloc (.cells #[.slice AI inn.length cI, .int .i64 ep, .slice AR R.length cR] 35)) := ((Below.refl _ _).alloc (Nat.le_refl _) _).alloc (by simp) _
      have PN := Lib.hid (h.below bN)
      replace bN := Lib.hid bN
      clear h ha hx hb hw1 RF c0 c1 c2
      go_enter Try.func24, Try.ntmps24
      go_wp2
      exact bodyPost_ret (v := .tuple #[.agg #[.slice AI inn.length cI, .int .i64 ep, .slice AR R.length cR], .int .i64 1]) (by simp [results, Try.results24, go_sem]) rfl ⟨_, _, rfl, PN.out, bN.out, fun k hk => .inl hk⟩
    · have b0 : decide (t < 0) = false := decide_eq_false h0
      rw [decide_eq_true (show 0 ≤ t by omega)] at b1
      clear ht
      have bN : Below w.heap.size w ((w.alloc (.cells #[.slice AI inn.length cI, .int .i64 ep, .slice AR R.length cR] 35)).alloc (.cells #[.slice AI inn.length cI, .int .i64 ep, .slice AR R.length cR] 35)) := ((Below.refl _ _).alloc (Nat.le_refl _) _).alloc (by simp) _
      have PN := Lib.hid (h.below bN)
      replace bN := Lib.hid bN
      clear h ha hx hb hw1 RF c0 c1 c2
      go_enter Try.func24, Try.ntmps24
      go_wp2
      exact bodyPost_ret (v := .tuple #[.agg #[.slice AI inn.length cI, .int .i64 ep, .slice AR R.length cR], .int .i64 1]) (by simp [results, Try.results24, go_sem]) rfl ⟨_, _, rfl, PN.out, bN.out, fun k hk => .inl hk⟩
  | true =>
    obtain ⟨i, rfl, hil⟩ := thereP_nat hth
    obtain ⟨g, c, e1, -, -, -, hlg, hxi, hfi⟩ := own_shape RF.i (by omega)
    injection e1 with q1 q2 q3
    subst q1 q3
    have xi := hxi i hil
    have ei : (inn.map (Value.int .i64)).getD i (.bool false) = .int .i64 (inn.getD i 0) := by simp [List.getD, hil]
    rw [ei] at xi
    have ea : inAt inn (i : Int) = inn.getD i 0 := rfl
    rw [if_pos rfl, ea]
    simp only [Int.toNat_natCast]
    have b0 : decide ((i : Int) < 0) = false := decide_eq_false (by omega)
    have b1 : decide ((inn.length : Int) ≤ (i : Int)) = false := decide_eq_false (by omega)
    have b2 : decide ((i : Int) < (inn.length : Int)) = true := decide_eq_true (by omega)
    generalize inn.getD i 0 = x at *
    clear hxi hfi ei ea
    by_cases h1 : x < 0
    · have b3 : decide (x < 0) = true := decide_eq_true h1
      rw [if_neg (by omega), if_neg (by omega)]
      have bN : Below w.heap.size w ((w.alloc (.cells #[.slice (some ⟨g, 0, none⟩) inn.length cI, .int .i64 ep, .slice AR R.length cR] 35)).alloc (.cells #[.slice (some ⟨g, 0, none⟩) inn.length cI, .int .i64 ep, .slice AR R.length cR] 35)) := ((Below.refl _ _).alloc (Nat.le_refl _) _).alloc (by simp) _
      have PN := Lib.hid (h.below bN)
      replace bN := Lib.hid bN
      rw [← hw1.out] at xi
      clear h ha hx hb hw1 RF c0 c1 c2
      go_enter Try.func24, Try.ntmps24
      go_wp2
      exact bodyPost_ret (v := .tuple #[.agg #[.slice (some ⟨g, 0, none⟩) inn.length cI, .int .i64 ep, .slice AR R.length cR], .int .i64 4]) (by simp [results, Try.results24, go_sem]) rfl ⟨_, _, rfl, PN.out, bN.out, fun k hk => .inl hk⟩
    · have b3 : decide (x < 0) = false := decide_eq_false h1
      rw [if_pos (by simp; omega), if_pos (by omega)]
      have q1 : w.heap.size ≤ w1.heap.size := by omega
      have hm1 : 0 + inn.length ≤ maxLen := by unfold maxLen; omega
      have hn1 : (0 + inn.length) * 8 ≤ 140737488355328 := by omega
      replace ha := Lib.hid ha
      replace hx := Lib.hid hx
      replace hb := Lib.hid hb
      replace RF := Lib.hid RF
      clear h
      go_enter Try.func24, Try.ntmps24
      go_upto_region 3 with fail
      rw [hw1.out]
      have hE : ((w1.alloc (.cells #[.slice (some ⟨g, 0, none⟩) inn.length cI, .int .i64 ep, .slice AR R.length cR] 35)).alloc (.cells #[] 3)).ownsRow w.heap.size 3 1 (.slice (some ⟨w1.heap.size + 1, 0, none⟩) 0 0) 0 [] := by
        have := newEmpty (w1.alloc (.cells #[.slice (some ⟨g, 0, none⟩) inn.length cI, .int .i64 ep, .slice AR R.length cR] 35)) 3 w.heap.size 1 (le_alloc q1 _)
        simpa using this
      go_wp2_with (at_builtin; refine wpList_append_own_at _ rfl _ _ 32 rfl w.heap.size 3 i0 (.int .i64 0) 1 8 Try.underlying32 hi hz0 hz1 hz2 rfl (by decide) _ _ _ rfl hE ⟨g, 0, none⟩ inn.length cI (inn.map (Value.int .i64)) rfl (by simp) ((own_alloc (own_alloc RF.out.i _) _).cells (g := g) rfl) (ints_one _) hm1 hn1 (le_alloc (le_alloc q1 _) _) ?_)
      intro v1 w4 hv1 hg1 _ hat1
      have Bel1 : Below w1.heap.size w1 w4 := bel_grown (((Below.refl _ _).alloc (Nat.le_refl _) _).alloc (le_alloc (Nat.le_refl _) _) _) hg1 (fun k hk => by simp [Value.ownBlock] at hk; omega) (le_alloc (le_alloc (Nat.le_refl _) _) _)
      have O1 : X3 w1.heap.size #[.slice (some ⟨g, 0, none⟩) inn.length cI, .int .i64 ep, .slice AR R.length cR] w4 := X3.grown (X3.alloc (heap_alloc_new w1 _) _) hE hg1 (by decide)
      obtain ⟨t1, ct1, e1, hBt1, -, -, hlt1', xt1, ft1⟩ := own_shape hv1 (by omega)
      subst e1
      have nto : ¬ w1.heap.size = t1 := fun e => O1.ne hv1 (by decide) (by rw [e]; rfl)
      have nto' : ¬ t1 = w1.heap.size := fun e => nto e.symm
      have ht1 : w1.heap.size ≤ t1 := by
        rcases hat1 with e | e <;> simp [Value.ownBlock] at e <;> omega
      have ft := ft1 i
      have xt := xt1 i hil
      clear c0 c1 c2 xt1 ft1 hg1 hat1
      obtain ⟨⟨o0, o1, o2⟩, fo⟩ := cellsX O1
      have fo0 := fo 0
      obtain ⟨⟨c0, c1, c2⟩, -⟩ := cellsX (ha.out.below Bel1)
      have s4 : w1.heap.size ≤ w4.heap.size := Bel1.size
      have O5 := (set3_0 O1 (.slice (some ⟨t1, 0, none⟩) inn.length ct1)).set (k := t1) (o := i) nto (.int .i64 (-1))
      have T5 := own_set (own_far (k := w1.heap.size) (o := 0) hv1 (O1.ne hv1 (by decide)) (.slice (some ⟨t1, 0, none⟩) inn.length ct1)) i hil (.int .i64 (-1))
      rw [← List.map_set] at T5
      have Bel5 := (Bel1.setCell (p := ⟨w1.heap.size, 0, none⟩) (Nat.le_refl _) (.slice (some ⟨t1, 0, none⟩) inn.length ct1)).setCell (p := ⟨t1, i, none⟩) ht1 (.int .i64 (-1))
      have R5 := RF.out.below Bel5
      have X5 := hx.out.below Bel5
      have bel5 := hb.out.trans (Bel5.mono q1)
      have S5 : RefP B (.slice (some ⟨t1, 0, none⟩) inn.length ct1) (inn.set i (-1)) (.slice AR R.length cR) R ((w4.setCell ⟨w1.heap.size, 0, none⟩ (.slice (some ⟨t1, 0, none⟩) inn.length ct1)).setCell ⟨t1, i, none⟩ (.int .i64 (-1))) := ⟨by have := own_mono T5 hB; simpa using this, R5.r⟩
      have nn0 : w.heap.size + 1 < w4.heap.size := by omega
      have nn1 : ¬ w1.heap.size = w.heap.size + 1 := by omega
      have nn2 : ¬ w.heap.size + 1 = w1.heap.size := by omega
      have nn3 : ¬ t1 = w.heap.size + 1 := by omega
      have nn4 : ¬ w.heap.size + 1 = t1 := by omega
      have nn5 : ¬ w.heap.size = w1.heap.size := by omega
      have nn6 : ¬ w1.heap.size = w.heap.size := by omega
      have nn7 : ¬ t1 = w.heap.size := by omega
      have nn8 : ¬ w.heap.size = t1 := by omega
      have hw4o : w1.heap.size < w4.heap.size := O1.lt
      obtain ⟨⟨d0, d1, d2⟩, fd⟩ := cellsX (hx.out.below Bel1)
      have fd0 := fd 0
      have fd1 := fd 1
      have fd2 := fd 2
      obtain ⟨w9, e9, ⟨y0, y1, y2⟩, b9, on9⟩ := end3 X5 bel5 (by omega) (.slice (some ⟨t1, 0, none⟩) inn.length ct1) (.int .i64 ep) (.slice AR R.length cR)
      have P9 := Lib.hid (S5.keepX X5 on9)
      have fr : ∀ k, OwnP (.slice (some ⟨t1, 0, none⟩) inn.length ct1) (.slice AR R.length cR) k → OwnP (.slice (some ⟨g, 0, none⟩) inn.length cI) (.slice AR R.length cR) k ∨ w.heap.size ≤ k := by
        rintro k (e | e)
        · injection e with e; subst e; exact .inr (by show w.heap.size ≤ t1; omega)
        · exact .inl (.inr e)
      replace fr := Lib.hid fr
      replace b9 := Lib.hid b9
      replace e9 := Lib.hid e9
      clear O1 Bel1 O5 T5 Bel5 R5 X5 bel5 S5 on9 hv1 fo fd hE
      go_wp2
      rw [← e9.out]
      exact bodyPost_ret (v := .tuple #[.agg #[.slice (some ⟨t1, 0, none⟩) inn.length ct1, .int .i64 ep, .slice AR R.length cR], .int .i64 0]) (by simp [results, Try.results24, go_sem, y0, y1, y2]) rfl ⟨_, _, rfl, P9.out, b9.out, fr.out⟩
end
end Go.Proofs.Ytecjkpjcmgohmac.EpRef
