/- The reference's pool: Retire. -/
import Derived.Test.YtecjkpjcmgohmacEpRef3
namespace Go.Proofs.Ytecjkpjcmgohmac.EpRef
open Go Go.RowKit Go.Maps Go.Proofs.Ytecjkpjcmgohmac.Only Go.Proofs.Ytecjkpjcmgohmac.Ep
set_option linter.unusedVariables false
set_option linter.unusedSimpArgs false

theorem info_thing : (Try.prog.info? 66).map (fun i => (i.zero, i.size, i.bytes)) = some (some (.agg #[.int .u64 0, .int .i64 0]), 2, 16) := by kernel_rfl
/-- A row of things laid behind a row of things: either may be nil. -/
theorem append_things {ops : Array Oper} {rest : List Oper} {o : Oper} {a : Act} {Q : Exit → Act → World → Prop} {w : World} (hgd : o.guard = none) (s x : Operand)
    (ho : o.op = .call { callee := .builtin .append, args := #[s, x], argTypes := #[33, 33] })
    (base : Nat) (i : TypeInfo) (hi : Try.prog.info? 66 = some i) (hz : i.zero = some (.agg #[.int .u64 0, .int .i64 0]))
    (hsize : i.size = 2) (hby : i.bytes = 16)
    (v : Value) (n : Nat) (xs : List Value) (hs : a.eval s = v) (hown : w.ownsRow base 66 2 v n xs)
    (b2 : Nat) (u : Value) (m : Nat) (news : List Value) (hx : a.eval x = u) (hown2 : w.ownsRow b2 66 2 u m news) (h1 : ∀ u ∈ news, u.oneCell' = true)
    (h63 : n + m ≤ maxLen) (hbytes : (n + m) * 16 ≤ 140737488355328) (hbase : base ≤ w.heap.size)
    (h : ∀ v' w', w'.ownsRow base 66 2 v' (n + m) (xs ++ news) → w.grownBy w' v.ownBlock → (v'.ownBlock = v.ownBlock ∨ v'.ownBlock = some w.heap.size) → wpList Try.prog ops Q rest (a.put o.dst v') w') :
    wpList Try.prog ops Q (o :: rest) a w := by
  have hlen := hown2.1
  rcases hown2.2 with ⟨e1, e2⟩ | ⟨g, cap, cur, hg, -, -, -⟩
  · subst e1
    subst e2
    have e3 : news = [] := by simpa using hlen
    subst e3
    refine wpList_append_own_none hgd s x _ ho base _ i 2 Try.underlying33 hi v n xs hs hown hx ?_
    refine h v w ?_ ⟨rfl, rfl, rfl, Nat.le_refl _, fun _ _ _ => rfl⟩ (.inl rfl)
    simpa using hown
  · subst hg
    refine wpList_append_own_at w hgd s x _ ho base _ i _ 2 16 Try.underlying33 hi hz hsize hby rfl (by decide) v n xs hs hown ⟨g, 0, none⟩ m cap news hx hlen (hown2.cells (g := g) rfl) h1 h63 hbytes hbase ?_
    intro v' w' q1 q2 _ q3
    exact h v' w' q1 q2 q3
theorem two_cells (w : World) (a b : Value) (T : TypeId) : ∀ j y, [a, b][j]? = some y → (w.alloc (.cells #[a, b] T)).cell? ((⟨w.heap.size, 0, none⟩ : Addr).add j) = some y := by
  intro j y hj
  exact cell_of (L := [a, b]) (heap_alloc_new w _) hj
section
variable {B : Nat} {vI vR : Value} {inn : List Int} {R : List (Int × Int)} {w : World}
set_option maxHeartbeats 8000000 in
set_option maxRecDepth 100000 in
theorem rretire (h : RefP B vI inn vR R w) (hB : B ≤ w.heap.size) (hl : R.length ≤ 1000) (ep x : Int) :
    Calls Try.prog 25 #[.agg (xv vI ep vR), .int .u64 x] w fun e w' => ∃ vI' vR', e = .returned (.agg (xv vI' ep vR')) ∧ RefP B vI' inn vR' (R ++ [(x, ep)]) w' ∧ Below w.heap.size w w' ∧ ∀ k, OwnP vI' vR' k → OwnP vI vR k ∨ w.heap.size ≤ k := by
  obtain ⟨i0, hi, hzz⟩ := Option.map_eq_some_iff.1 info_thing
  simp only [Prod.mk.injEq] at hzz
  obtain ⟨hz0, hz1, hz2⟩ := hzz
  obtain ⟨AI, cI, e1, -⟩ := own_any' h.i
  obtain ⟨AR, cR, e2, -⟩ := own_any' h.r
  subst e1 e2
  obtain ⟨w1, hw1, ha, hx, hb, s1⟩ := two3 w (xv (.slice AI inn.length cI) ep (.slice AR R.length cR)) (.slice none 0 0) (.slice none 0 0)
  have RF := h.below hb
  unfold xv at *
  obtain ⟨⟨c0, c1, c2⟩, -⟩ := cellsX ha
  replace hw1 := Lib.hid hw1.symm
  have hlt0 : w.heap.size < w1.heap.size := by omega
  have hlt1 : w.heap.size + 1 < w1.heap.size := by omega
  have q1 : w.heap.size ≤ w1.heap.size := by omega
  have hm1 : 0 + R.length ≤ maxLen := by unfold maxLen; omega
  have hn1 : (0 + R.length) * 16 ≤ 140737488355328 := by omega
  have hm2 : R.length + 1 ≤ maxLen := by unfold maxLen; omega
  have hn2 : (R.length + 1) * 16 ≤ 140737488355328 := by omega
  replace ha := Lib.hid ha
  replace hx := Lib.hid hx
  replace hb := Lib.hid hb
  replace RF := Lib.hid RF
  clear h
  have hE : ((w1.alloc (.cells #[.slice AI inn.length cI, .int .i64 ep, .slice AR R.length cR] 35)).alloc (.cells #[] 66)).ownsRow w.heap.size 66 2 (.slice (some ⟨w1.heap.size + 1, 0, none⟩) 0 0) 0 [] := by
    have := newEmpty (w1.alloc (.cells #[.slice AI inn.length cI, .int .i64 ep, .slice AR R.length cR] 35)) 66 w.heap.size 2 (le_alloc q1 _)
    simpa using this
  replace hE := Lib.hid hE
  go_enter Try.func25, Try.ntmps25
  go_upto_region 1 with fail
  rw [hw1.out]
  go_wp2_with (at_builtin; refine append_things rfl _ _ rfl w.heap.size i0 hi hz0 hz1 hz2 _ _ _ rfl hE.out B _ _ _ rfl (own_alloc (own_alloc RF.out.r _) _) (things_one R) hm1 hn1 (le_alloc (le_alloc q1 _) _) ?_)
  intro v1 w4 hv1 hg1 hat1
  have Bel1 : Below w1.heap.size w1 w4 := bel_grown (((Below.refl _ _).alloc (Nat.le_refl _) _).alloc (le_alloc (Nat.le_refl _) _) _) hg1 (fun k hk => by simp [Value.ownBlock] at hk; omega) (le_alloc (le_alloc (Nat.le_refl _) _) _)
  have O1 : X3 w1.heap.size #[.slice AI inn.length cI, .int .i64 ep, .slice AR R.length cR] w4 := X3.grown (X3.alloc (heap_alloc_new w1 _) _) hE.out hg1 (by decide)
  have hr1 : ∀ k, v1.ownBlock = some k → w1.heap.size + 1 ≤ k := by
    intro k hk
    rcases hat1 with e | e <;> rw [hk] at e <;> simp [Value.ownBlock] at e <;> omega
  have s4 : w1.heap.size ≤ w4.heap.size := Bel1.size
  have q4 : w.heap.size ≤ w4.heap.size := by omega
  clear c0 c1 c2 hat1 hg1 hE
  obtain ⟨⟨c0, c1, c2⟩, -⟩ := cellsX (ha.out.below Bel1)
  have ht0 : w.heap.size < w4.heap.size := by omega
  obtain ⟨A1, k1, e1, -⟩ := own_any' hv1
  subst e1
  replace hv1 := Lib.hid hv1
  replace O1 := Lib.hid O1
  replace Bel1 := Lib.hid Bel1
  replace hr1 := Lib.hid hr1
  go_wp2_with (at_builtin; refine wpList_append_own_at _ rfl _ _ 33 rfl w.heap.size 66 i0 _ 2 16 Try.underlying33 hi hz0 hz1 hz2 rfl (by decide) _ _ _ rfl (own_alloc hv1.out _) ⟨w4.heap.size, 0, none⟩ 1 1 [.int .u64 x, .int .i64 ep] rfl rfl (two_cells _ _ _ _) (things_one [(x, ep)]) hm2 hn2 (le_alloc q4 _) ?_)
  intro v2 w5 hv2 hg2 _ hat2
  have Bel5 : Below w1.heap.size w1 w5 := bel_grown (Bel1.out.alloc Bel1.out.size _) hg2 (fun k hk => by have := hr1.out k hk; omega) (le_alloc Bel1.out.size _)
  have O5 := X3.grown (O1.out.alloc _) (own_alloc hv1.out _) hg2 (by decide)
  have hr2 : ∀ k, v2.ownBlock = some k → w1.heap.size + 1 ≤ k := by
    intro k hk
    rcases hat2 with e | e <;> rw [hk] at e
    · exact hr1.out k e.symm
    · simp at e; have := O1.out.lt; omega
  obtain ⟨A2, k2, e2, -⟩ := own_any' hv2
  subst e2
  clear c0 c1 c2
  obtain ⟨⟨o0, o1, o2⟩, fo⟩ := cellsX O5
  have fo2 := fo 2
  have X5 := hx.out.below Bel5
  have s5 : w1.heap.size ≤ w5.heap.size := Bel5.size
  have nn2 : ¬ w.heap.size + 1 = w1.heap.size := by omega
  have nn1 : ¬ w1.heap.size = w.heap.size + 1 := by omega
  have hlt5 : w.heap.size + 1 < w5.heap.size := by omega
  have ho5 : w1.heap.size < w5.heap.size := O5.lt
  have X6 := X5.set (k := w1.heap.size) (o := 2) nn2 (.slice A2 (R.length + 1) k2)
  have Bel6 := Bel5.setCell (p := ⟨w1.heap.size, 2, none⟩) (Nat.le_refl _) (.slice A2 (R.length + 1) k2)
  have V6 := own_far (k := w1.heap.size) (o := 2) hv2 (O5.ne hv2 (by decide)) (.slice A2 (R.length + 1) k2)
  have P6 : RefP B (.slice AI inn.length cI) inn (.slice A2 (R.length + 1) k2) (R ++ [(x, ep)]) (w5.setCell ⟨w1.heap.size, 2, none⟩ (.slice A2 (R.length + 1) k2)) := by
    refine ⟨(RF.out.below Bel6).i, ?_⟩
    have := own_mono V6 hB
    rw [things_app]
    simpa [things] using this
  obtain ⟨⟨d0, d1, d2⟩, fd⟩ := cellsX X5
  have fd0 := fd 0
  have fd1 := fd 1
  have fd2 := fd 2
  obtain ⟨w9, e9, ⟨y0, y1, y2⟩, b9, on9⟩ := end3 X6 (hb.out.trans (Bel6.mono q1)) (by omega) (.slice AI inn.length cI) (.int .i64 ep) (.slice A2 (R.length + 1) k2)
  have P9 := Lib.hid (P6.keepX X6 on9)
  have fr : ∀ k, OwnP (.slice AI inn.length cI) (.slice A2 (R.length + 1) k2) k → OwnP (.slice AI inn.length cI) (.slice AR R.length cR) k ∨ w.heap.size ≤ k := by
    rintro k (e | e)
    · exact .inl (.inl e)
    · exact .inr (by have := hr2 k e; omega)
  replace fr := Lib.hid fr
  replace b9 := Lib.hid b9
  replace e9 := Lib.hid e9
  replace hr2 := Lib.hid hr2
  clear O1 Bel1 O5 Bel5 X5 X6 Bel6 V6 P6 on9 hv1 hv2 hg2 hat2 fo fd
  go_wp2
  rw [← e9.out]
  exact bodyPost_ret (v := .agg #[.slice AI inn.length cI, .int .i64 ep, .slice A2 (R.length + 1) k2]) (by simp [results, Try.results25, go_sem, y0, y1, y2]) rfl ⟨_, _, rfl, P9.out, b9.out, fr.out⟩
end
end Go.Proofs.Ytecjkpjcmgohmac.EpRef
