/- OrderMore: with a call that wasn't answered more, calls that fit fit still. Laid by genmore.py. -/
import Derived.Test.YtecjkpjcmgohmabPuM
namespace Go.Proofs.Ytecjkpjcmgohmab.WalkOrderMore
open Go Go.RowKit Go.Maps Go.Proofs.Ytecjkpjcmgohmab.Only Go.Proofs.Ytecjkpjcmgohmab.Pu Go.Proofs.Ytecjkpjcmgohmab.Or Go.Proofs.Ytecjkpjcmgohmab.Args Go.Proofs.YtecjkpjcmgohmabW.PrintLast
set_option linter.unusedVariables false
set_option linter.unusedSimpArgs false

theorem at_tail {l : List C} (i : Nat) : at' l.tail i = at' l (i + 1) := by
  cases l with
  | nil => rfl
  | cons a l => rfl
theorem addr0 (g j : Nat) : (⟨g, 0, none⟩ : Addr).add j = ⟨g, j, none⟩ := by
  unfold Addr.add
  by_cases h : j = 0
  · rw [if_pos h, h]
  · rw [if_neg h]; simp
theorem own_news {w : World} {B g n cap : Nat} {l : List C} (h : Own w B (.slice (some ⟨g, 0, none⟩) n cap) l) : ∀ j y, (flat l)[j]? = some y → w.cell? ((⟨g, 0, none⟩ : Addr).add j) = some y := by
  intro j y hj
  rw [addr0]
  rcases h.2 with ⟨hv, -⟩ | ⟨g', cap', cur, hv, hB, hg, hc, hm, hz, hx⟩
  · cases hv
  · cases hv
    have hl : j < l.length * 5 := by
      have := (List.getElem?_eq_some_iff.1 hj).1
      rwa [flat_len] at this
    rw [← hx, List.getElem?_take_of_lt hl] at hj
    simp only [World.cell?, hg]
    rw [← Array.getElem?_toList]
    exact hj
theorem one_cel (l : List C) : ∀ u ∈ flat l, u.oneCell' = true := by
  induction l with
  | nil => intro u hu; simp [flat] at hu
  | cons c l ih =>
    intro u hu
    rcases List.mem_append.1 (show u ∈ cel c ++ flat l from hu) with q | q
    · simp only [cel, List.mem_cons, List.not_mem_nil, or_false] at q
      rcases q with rfl | rfl | rfl | rfl | rfl <;> rfl
    · exact ih u q
theorem newE (w : World) (T : TypeId) (B : Nat) (size : Nat) (hB : B ≤ w.heap.size) : ∃ w', w' = w.alloc (.cells #[] T) ∧ w'.ownsRow B T size (.slice (some ⟨w.heap.size, 0, none⟩) 0 0) 0 [] ∧ w'.heap[w.heap.size]? = some (.cells #[] T (0, 0)) ∧ Below w.heap.size w w' :=
  ⟨_, rfl, ⟨by simp, .inr ⟨w.heap.size, 0, #[], rfl, hB, heap_alloc_new w _, Nat.le_refl _, by simp [maxLen], by simp, by simp⟩⟩, heap_alloc_new w _, (Below.refl _ _).alloc (Nat.le_refl _) _⟩
theorem newR (w : World) (c : C) : ∃ w', w' = w.alloc (.cells #[.int .i64 c.kind, .string c.key, .bool c.ok, .int .i64 c.inv, .int .i64 c.ret] 31) ∧ w'.heap[w.heap.size]? = some (.cells #[.int .i64 c.kind, .string c.key, .bool c.ok, .int .i64 c.inv, .int .i64 c.ret] 31 (0, 0)) ∧ Below w.heap.size w w' :=
  ⟨_, rfl, heap_alloc_new w _, (Below.refl _ _).alloc (Nat.le_refl _) _⟩
theorem slR_heap {w : World} {f : Nat} {c : C} (h : w.heap[f]? = some (.cells #[.int .i64 c.kind, .string c.key, .bool c.ok, .int .i64 c.inv, .int .i64 c.ret] 31 (0, 0))) : SlR w (.slice (some ⟨f, 0, none⟩) 1 1) [c] := by
  refine ⟨_, 1, rfl, by simp [maxLen], fun i hi => ⟨f, 0, rfl, lt_of_heap h, ?_⟩⟩
  obtain rfl : i = 0 := by simpa using hi
  obtain ⟨x0, x1, x2, x3, x4⟩ := five h
  exact ⟨x0, x1, x2, x3, x4⟩
theorem heap_ne {w : World} {e f : Nat} {c0 : Value} {cs : List Value} {T U : TypeId} (he : w.heap[e]? = some (.cells #[] T (0, 0))) (hf : w.heap[f]? = some (.cells (c0 :: cs).toArray U (0, 0))) : f ≠ e := by
  rintro rfl
  rw [he] at hf
  simp at hf
theorem own_ne {w : World} {B e : Nat} {v : Value} {l : List C} {T : TypeId} (h : Own w B v l) (hl : 0 < l.length) (he : w.heap[e]? = some (.cells #[] T (0, 0))) : ∀ k, v.ownBlock = some k → k ≠ e := by
  rintro k hk rfl
  rcases h.2 with ⟨rfl, h0⟩ | ⟨g, cap, cur, rfl, hb, hc, hn, hm, hz, hx⟩
  · omega
  · simp [Value.ownBlock] at hk
    subst hk
    rw [he] at hc
    simp at hc
    have hc := hc.1
    subst hc
    simp at hz
    omega
/-- 'append' of calls, as an arm. -/
theorem appendN_arm {P : Program} {ops : Array Oper} {Q : Exit → Act → World → Prop} {oi : Oper} {N : Option Tmp} {a : Act} {w : World} {K : Act → World → Prop} {so xo : Operand} {t e : TypeId}
    (hw : Region.wanted oi (yielded ops a.tmps) = true) (hN : oi.dst = N) (ho : oi.op = .call { callee := .builtin .append, args := #[so, xo], argTypes := #[t, t] }) (i : TypeInfo) (z : Value) (bytes : Nat) (ht : P.underlying t = some (.slice e)) (hi : P.info? e = some i) (hz : i.zero = some z) (hsz : i.size = 5) (hby : i.bytes = bytes) (hzs : z.cells.size = 5)
    {B : Nat} {v : Value} {n : Nat} {xs : List Value} (hs : a.eval so = v) (f m c : Nat) (hx : a.eval xo = .slice (some ⟨f, 0, none⟩) m c) (h : w.ownsRow B e 5 v n xs) (hB : B ≤ w.heap.size) (news : List Value) (hl : news.length = m * 5) (hnews : ∀ j y, news[j]? = some y → w.cell? ((⟨f, 0, none⟩ : Addr).add j) = some y) (h1 : ∀ u ∈ news, u.oneCell' = true) (h63 : n + m ≤ maxLen) (hbytes : (n + m) * bytes ≤ 140737488355328)
    (hk : ∀ v' w', w'.ownsRow B e 5 v' (n + m) (xs ++ news) → w.grownBy w' v.ownBlock → K (a.put N v') w') :
    if Region.wanted oi (yielded ops a.tmps) = true then Oper.wp P oi a w K Q else K (a.put N undef) w := by
  obtain ⟨v', w', hr, h2, h3, -, -⟩ := run_append_own_at (P := P) w B t oi.type e i z 5 bytes ht hi hz hsz hby hzs (by decide) v n xs h ⟨f, 0, none⟩ m c news hl hnews h1 h63 hbytes hB
  refine value_ (w1 := w') (v := v') hw hN ?_ (hk v' w' h2 h3)
  unfold execOp
  simp only [ho, resolve, invoke, builtin, Sem.run_bind, Sem.run_pure, Result.andThen_ok, List.map_toArray, List.map_cons, List.map_nil, hs, hx, hr]
set_option maxHeartbeats 8000000 in
set_option maxRecDepth 2000000 in
theorem core {W : World} {vf v : Value} {zs : List ByteArray} {l : List C} {z : Int} (hF : Strs W vf zs) (hL : SlR W v l) (hk : ∀ c ∈ l, c.key.size ≤ maxLen) (hz : 0 ≤ z ∧ z ≤ 255) (hcap : ∀ a n cap, v = .slice a n cap → n ≤ cap) :
    Calls Try.prog 7 #[vf, v, .int .u8 z] W fun e w' => e = .returned (.bool true) ∧ Below W.heap.size W w' := by
  obtain ⟨af, capf, rfl, hfl, -⟩ := hF.shape
  obtain ⟨av, capv, rfl, hvl, hx⟩ := hL.shape
  unfold maxLen at hfl hvl
  replace hx := Lib.hid hx
  have hAw := Lib.hid (awake W)
  by_cases h1 : 20 < zs.length
  · have q1 : decide ((20 : Int) < (zs.length : Int)) = true := by simp; omega
    go_enter Try.func7, Try.ntmps7
    go_wp2_with fail
    refine hAw.out.mono ?_
    rintro e w1 ⟨rfl, b1⟩
    go_wp2_with fail
    go_ret
    exact ⟨rfl, b1⟩
  have q1 : decide ((20 : Int) < (zs.length : Int)) = false := by simp; omega
  by_cases h2 : 12 < l.length
  · have q2 : decide ((12 : Int) < (l.length : Int)) = true := by simp; omega
    go_enter Try.func7, Try.ntmps7
    go_wp2_with fail
    refine hAw.out.mono ?_
    rintro e w1 ⟨rfl, b1⟩
    go_wp2_with fail
    go_ret
    exact ⟨rfl, b1⟩
  have q2 : decide ((12 : Int) < (l.length : Int)) = false := by simp; omega
  by_cases h3 : l.length < 2
  · have q3 : decide ((l.length : Int) < 2) = true := by simp; omega
    go_enter Try.func7, Try.ntmps7
    go_wp2_with fail
    refine hAw.out.mono ?_
    rintro e w1 ⟨rfl, b1⟩
    go_wp2_with fail
    go_ret
    exact ⟨rfl, b1⟩
  have q3 : decide ((l.length : Int) < 2) = false := by simp; omega
  replace hcap := hcap _ _ _ rfl
  obtain ⟨zn, rfl⟩ := Int.eq_ofNat_of_zero_le hz.1
  have hzn : zn ≤ 255 := by omega
  clear hz
  obtain ⟨gl, ol, rfl, hgl, hcl⟩ := hx.out 0 (by omega)
  replace hF := Lib.hid hF
  replace hL := Lib.hid hL
  go_enter Try.func7, Try.ntmps7
  go_wp2_with fail
  refine hAw.out.mono ?_
  rintro e w1 ⟨rfl, b1⟩
  obtain ⟨c0, c1, c2, c3, c4⟩ := hcl.below b1
  rw [Nat.zero_mul, Nat.add_zero] at c0 c1 c2 c3 c4
  have hTl : SlR w1 (.slice (some ⟨gl, ol + 5, none⟩) (l.length - 1) (capv - 1)) l.tail := by
    refine ⟨_, capv - 1, by rw [List.length_tail], by rw [List.length_tail]; unfold maxLen; omega, fun i hi => ?_⟩
    rw [List.length_tail] at hi
    obtain ⟨g', o', e', hg', hc'⟩ := hx.out (i + 1) (by omega)
    injection e' with e'
    injection e' with e1 e2
    subst e1 e2
    refine ⟨gl, ol + 5, rfl, Nat.lt_of_lt_of_le hgl b1.size, ?_⟩
    rw [at_tail, show ol + 5 + i * 5 = ol + (i + 1) * 5 by omega]
    exact hc'.below b1
  have hX : l.tail.length = l.length - 1 := List.length_tail
  have hkX : ∀ c ∈ l.tail, c.key.size ≤ maxLen := fun c hc => hk c (List.mem_of_mem_tail hc)
  generalize hXe : l.tail = X at *
  replace hXe := Lib.hid hXe
  have hX1 : 1 ≤ X.length := by omega
  have hX11 : X.length ≤ 11 := by omega
  generalize hc0 : at' l 0 = c at *
  have hkc : c.key.size ≤ maxLen := by rw [← hc0]; exact hk _ (at_mem (by omega))
  replace hc0 := Lib.hid hc0
  go_upto_region 6 with fail
  obtain ⟨w2, cb, ecb, e2, b2, ⟨x0, x1, x2, x3, x4⟩, hcb⟩ : ∃ w' cb, cb = w1.heap.size ∧ w' = w1.alloc (.cells #[.int .i64 c.kind, .string c.key, .bool c.ok, .int .i64 c.inv, .int .i64 c.ret] 31) ∧ Below w1.heap.size w1 w' ∧
    (w'.cell? ⟨cb, 0, none⟩ = some (.int .i64 c.kind) ∧ w'.cell? ⟨cb, 1, none⟩ = some (.string c.key) ∧ w'.cell? ⟨cb, 2, none⟩ = some (.bool c.ok) ∧ w'.cell? ⟨cb, 3, none⟩ = some (.int .i64 c.inv) ∧ w'.cell? ⟨cb, 4, none⟩ = some (.int .i64 c.ret)) ∧ cb < w'.heap.size := ⟨_, _, rfl, rfl, (Below.refl _ _).alloc (Nat.le_refl _) _, ⟨by simp, by simp, by simp, by simp, by simp⟩, by simp⟩
  rw [← e2, ← ecb]
  replace ecb := Lib.hid ecb
  have B2 := b1.trans (b2.mono b1.size)
  have hM := Lib.hid (madeC (hTl.below b2) (by omega))
  clear e2 c0 c1 c2 c3 c4 hcl hAw
  have hlX : (l.length : Int) - 1 = X.length := by omega
  rw [← hX] at hM
  rw [← hX]
  replace hX := Lib.hid hX
  replace B2 := Lib.hid B2
  replace b2 := Lib.hid b2
  go_wp2_with fail
  refine hM.out.mono ?_
  rintro e w3 ⟨vx, rfl, ox, b3⟩
  have B3 := B2.out.trans (b3.mono B2.out.size)
  have FX := fitsAll (hF.out.below B3) ox hkX
  obtain ⟨gx, cx, ex, hgB, -, -⟩ := own_cells ox hX1
  subst ex
  have y0 := (b3.cell (p := ⟨cb, 0, none⟩) hcb).trans x0
  have y1 := (b3.cell (p := ⟨cb, 1, none⟩) hcb).trans x1
  have y2 := (b3.cell (p := ⟨cb, 2, none⟩) hcb).trans x2
  have y3 := (b3.cell (p := ⟨cb, 3, none⟩) hcb).trans x3
  have y4 := (b3.cell (p := ⟨cb, 4, none⟩) hcb).trans x4
  have hcb3 := Nat.lt_of_lt_of_le hcb b3.size
  replace B3 := Lib.hid B3
  replace ox := Lib.hid ox
  clear x0 x1 x2 x3 x4 b3 hM hTl b1
  cases hfx : fitsB zs X with
  | false =>
    rw [hfx] at FX
    replace FX := Lib.hid FX
    clear hfx
    go_wp2_with fail
    refine FX.out.mono ?_
    rintro e w4 ⟨rfl, b4⟩
    go_wp2_with fail
    go_ret
    exact ⟨rfl, B3.out.trans (b4.mono B3.out.size)⟩
  | true =>
    rw [hfx] at FX
    replace FX := Lib.hid FX
    replace hfx := Lib.hid hfx
    go_wp2_with fail
    refine FX.out.mono ?_
    rintro e w4 ⟨rfl, b4⟩
    have B4 := B3.out.trans (b4.mono B3.out.size)
    have x0 := (b4.cell (p := ⟨cb, 0, none⟩) hcb3).trans y0
    have x1 := (b4.cell (p := ⟨cb, 1, none⟩) hcb3).trans y1
    have x2 := (b4.cell (p := ⟨cb, 2, none⟩) hcb3).trans y2
    have x3 := (b4.cell (p := ⟨cb, 3, none⟩) hcb3).trans y3
    have x4 := (b4.cell (p := ⟨cb, 4, none⟩) hcb3).trans y4
    have o4 := own_below ox.out b4
    replace B4 := Lib.hid B4
    replace o4 := Lib.hid o4
    clear y0 y1 y2 y3 y4 FX b4 ox
    obtain ⟨i0, hi, hzz⟩ := Option.map_eq_some_iff.1 infoC
    simp only [Prod.mk.injEq] at hzz
    obtain ⟨hz0, hz1, hz2⟩ := hzz
    go_upto_region 11 with fail
    obtain ⟨d, hd⟩ : ∃ d : C, d = { c with ret := -1 } := ⟨_, rfl⟩
    obtain ⟨w5, db, edb, e5, b5, ⟨d0, d1, d2, d3, d4⟩, hdb⟩ : ∃ w' db, db = w4.heap.size ∧ w' = w4.alloc (.cells #[.int .i64 c.kind, .string c.key, .bool c.ok, .int .i64 c.inv, .int .i64 (-1)] 31) ∧ Below w4.heap.size w4 w' ∧
      (w'.cell? ⟨db, 0, none⟩ = some (.int .i64 d.kind) ∧ w'.cell? ⟨db, 1, none⟩ = some (.string d.key) ∧ w'.cell? ⟨db, 2, none⟩ = some (.bool d.ok) ∧ w'.cell? ⟨db, 3, none⟩ = some (.int .i64 d.inv) ∧ w'.cell? ⟨db, 4, none⟩ = some (.int .i64 d.ret)) ∧ db < w'.heap.size := by
      subst hd
      exact ⟨_, _, rfl, rfl, (Below.refl _ _).alloc (Nat.le_refl _) _, ⟨by simp, by simp, by simp, by simp, by simp⟩, by simp⟩
    rw [← e5, ← edb]
    have ho : opn d = true := by rw [hd]; rfl
    have hkd : d.key.size ≤ maxLen := by rw [hd]; exact hkc
    have B5 := B4.out.trans (b5.mono B4.out.size)
    have o5 := own_below o4.out b5
    have hQ0 : Below w5.heap.size w5 w5.drew := below_drew (Below.refl _ _)
    have h63 : 0 + X.length ≤ maxLen := by unfold maxLen; omega
    have h64 : (0 + X.length) * 48 ≤ 140737488355328 := by omega
    have g63 : X.length + 1 ≤ maxLen := by unfold maxLen; omega
    have g64 : (X.length + 1) * 48 ≤ 140737488355328 := by omega
    replace hd := Lib.hid hd
    replace edb := Lib.hid edb
    replace o5 := Lib.hid o5
    replace B5 := Lib.hid B5
    replace hQ0 := Lib.hid hQ0
    replace h63 := Lib.hid h63
    replace h64 := Lib.hid h64
    replace g63 := Lib.hid g63
    replace g64 := Lib.hid g64
    clear e5 b5 x0 x1 x2 x3 x4
    refine start_ (n := 8) (S := fun w' => w'.cell? ⟨db, 0, none⟩ = some (.int .i64 d.kind) ∧ w'.cell? ⟨db, 1, none⟩ = some (.string d.key) ∧ w'.cell? ⟨db, 2, none⟩ = some (.bool d.ok) ∧ w'.cell? ⟨db, 3, none⟩ = some (.int .i64 d.inv) ∧ w'.cell? ⟨db, 4, none⟩ = some (.int .i64 d.ret)) (ds := []) #[false, false, false, false, false, false, false, false] (by kernel_rfl) rfl rfl ⟨d0, d1, d2, d3, d4⟩ (fun hHeld => ?_)
    refine pure_ (i := 1) (N := some 44) (v := ?_) (a' := ?_) #[false, true, false, false, false, false, false, false] rfl rfl (by kernel_rfl) (fun _ _ _ h => h) (Or.inl ⟨by rfl, ?_⟩) ?_ ?_
    rotate_left
    · intro w'
      go_simp
      with_reducible rfl
    rotate_left
    · simp only [Act.put, List.setIfInBounds_toArray, List.set_cons_zero, List.set_cons_succ, i64_w, i32_w]
      rfl
    refine take_ (i := 3) (N := some 46) (v := ?_) (a' := ?_) #[false, true, false, true, false, false, false, false] rfl rfl (by kernel_rfl) (fun _ _ _ h => h) (Or.inl ⟨by rfl, ?_⟩) hHeld ?_ ?_
    rotate_left
    · rintro w' ⟨s0, s1, s2, s3, s4⟩
      go_simp
      with_reducible rfl
    rotate_left
    · simp only [Act.put, List.setIfInBounds_toArray, List.set_cons_zero, List.set_cons_succ, i64_w, i32_w]
      rfl
    refine two_ (i := 0) (j := 4) (Ni := some 43) (Nj := some 47) #[true, true, false, true, false, false, false, false] #[false, true, false, true, true, false, false, false] rfl rfl rfl rfl (by kernel_rfl) (by decide) (by decide) (fun K hK => ?_) (fun K hK => ?_)
    · refine value_ (w1 := ?_) (v := ?_) (by rfl) rfl ?_ ?_
      rotate_left 2
      · go_simp
        constructor
        · rfl
        · rfl
      obtain ⟨q1, en, nE, nEh, hb⟩ := newE w5.drew 29 w5.heap.size 5 hQ0.out.size
      replace en : q1 = (w5.alloc (.cells #[] 29)).drew := en
      rw [← en]
      have hQ1 := hQ0.out.trans (hb.mono hQ0.out.size)
      replace hQ1 := Lib.hid hQ1
      have hE := Lib.hid nE
      have hEh := Lib.hid nEh
      clear en hb nE nEh
      have s1_0 := (hQ1.out.cell (p := ⟨db, 0, none⟩) hdb).trans d0
      have s1_1 := (hQ1.out.cell (p := ⟨db, 1, none⟩) hdb).trans d1
      have s1_2 := (hQ1.out.cell (p := ⟨db, 2, none⟩) hdb).trans d2
      have s1_3 := (hQ1.out.cell (p := ⟨db, 3, none⟩) hdb).trans d3
      have s1_4 := (hQ1.out.cell (p := ⟨db, 4, none⟩) hdb).trans d4
      refine hK.out _ _ ⟨s1_0, s1_1, s1_2, s1_3, s1_4⟩ (fun hHeld => ?_)
      clear hK K
      refine norm_ (a' := ?_) ?_ ?_
      rotate_left
      · show Act.put _ (some 43) _ = _
        simp only [Act.put, List.setIfInBounds_toArray, List.set_cons_zero, List.set_cons_succ, i64_w, i32_w]
        rfl
      refine two_ (i := 2) (j := 4) (Ni := some 45) (Nj := some 47) #[true, true, true, true, false, false, false, false] #[true, true, false, true, true, false, false, false] rfl rfl rfl rfl (by kernel_rfl) (by decide) (by decide) (fun K hK => ?_) (fun K hK => ?_)
      · have hxo := own_below o5.out hQ1.out
        refine appendN_arm (v := .slice (some ⟨w5.drew.heap.size, 0, none⟩) 0 0) (by rfl) rfl rfl i0 _ 48 Try.underlying25 hi hz0 hz1 hz2 rfl (n := 0) (xs := []) rfl gx X.length cx rfl hE.out hQ1.out.size (flat X) (flat_len X) (own_news hxo) (one_cel X) h63.out h64.out ?_
        intro v45 q2 hr hg
        have hQ2 := hQ1.out.grown hg hQ1.out.size (fun k hk => (own_blk hE.out hk).1)
        rw [Nat.zero_add, List.nil_append] at hr
        have n45 : Own q2 w5.heap.size v45 X := hr
        obtain ⟨a45, c45, e45, -, -⟩ := own_any n45
        subst e45
        have h45 := Lib.hid n45
        clear hr hg hxo n45 hE hEh
        replace hQ2 := Lib.hid hQ2
        have s2_0 := (hQ2.out.cell (p := ⟨db, 0, none⟩) hdb).trans d0
        have s2_1 := (hQ2.out.cell (p := ⟨db, 1, none⟩) hdb).trans d1
        have s2_2 := (hQ2.out.cell (p := ⟨db, 2, none⟩) hdb).trans d2
        have s2_3 := (hQ2.out.cell (p := ⟨db, 3, none⟩) hdb).trans d3
        have s2_4 := (hQ2.out.cell (p := ⟨db, 4, none⟩) hdb).trans d4
        refine hK.out _ _ ⟨s2_0, s2_1, s2_2, s2_3, s2_4⟩ (fun hHeld => ?_)
        clear hK K
        refine norm_ (a' := ?_) ?_ ?_
        rotate_left
        · show Act.put _ (some 45) _ = _
          simp only [Act.put, List.setIfInBounds_toArray, List.set_cons_zero, List.set_cons_succ, i64_w, i32_w]
          rfl
        refine one_ (i := 4) (N := some 47) #[true, true, true, true, true, false, false, false] rfl rfl (by kernel_rfl) (by decide) (fun K hK => ?_)
        refine value_ (w1 := ?_) (v := ?_) (by rfl) rfl ?_ ?_
        rotate_left 2
        · go_simp
          constructor
          · rfl
          · rfl
        obtain ⟨q3, en, nFh, hb⟩ := newR q2 d
        rw [← en]
        have hQ3 := hQ2.out.trans (hb.mono hQ2.out.size)
        replace h45 := Lib.hid (own_below h45.out hb)
        replace hQ3 := Lib.hid hQ3
        have hFh := Lib.hid nFh
        clear en hb nFh
        have s3_0 := (hQ3.out.cell (p := ⟨db, 0, none⟩) hdb).trans d0
        have s3_1 := (hQ3.out.cell (p := ⟨db, 1, none⟩) hdb).trans d1
        have s3_2 := (hQ3.out.cell (p := ⟨db, 2, none⟩) hdb).trans d2
        have s3_3 := (hQ3.out.cell (p := ⟨db, 3, none⟩) hdb).trans d3
        have s3_4 := (hQ3.out.cell (p := ⟨db, 4, none⟩) hdb).trans d4
        refine hK.out _ _ ⟨s3_0, s3_1, s3_2, s3_3, s3_4⟩ (fun hHeld => ?_)
        clear hK K
        refine norm_ (a' := ?_) ?_ ?_
        rotate_left
        · show Act.put _ (some 47) _ = _
          simp only [Act.put, List.setIfInBounds_toArray, List.set_cons_zero, List.set_cons_succ, i64_w, i32_w]
          rfl
        refine one_ (i := 5) (N := some 48) #[true, true, true, true, true, true, false, false] rfl rfl (by kernel_rfl) (by decide) (fun K hK => ?_)
        refine goes_ Try.func10 (by kernel_rfl) rfl #[.slice (some ⟨q2.heap.size, 0, none⟩) 1 1] (by rfl) rfl rfl (by simp only [List.map_toArray, List.map_cons, List.map_nil]; rfl) ?_
        with_reducible refine (madeC (slR_heap hFh.out) (by simp)).mono ?_
        rintro e q4 ⟨v48, rfl, n48, hb⟩
        obtain ⟨g48, c48, e48, -, -, -⟩ := own_cells n48 (by simp : 0 < [d].length)
        subst e48
        refine ⟨_, rfl, ?_⟩
        have hQ4 := hQ3.out.trans (hb.mono hQ3.out.size)
        replace h45 := Lib.hid (own_below h45.out hb)
        replace hFh := Lib.hid ((hb.block _ (lt_of_heap hFh.out)).trans hFh.out)
        replace hQ4 := Lib.hid hQ4
        have h48 := Lib.hid n48
        clear hb n48
        have s4_0 := (hQ4.out.cell (p := ⟨db, 0, none⟩) hdb).trans d0
        have s4_1 := (hQ4.out.cell (p := ⟨db, 1, none⟩) hdb).trans d1
        have s4_2 := (hQ4.out.cell (p := ⟨db, 2, none⟩) hdb).trans d2
        have s4_3 := (hQ4.out.cell (p := ⟨db, 3, none⟩) hdb).trans d3
        have s4_4 := (hQ4.out.cell (p := ⟨db, 4, none⟩) hdb).trans d4
        refine hK.out _ _ ⟨s4_0, s4_1, s4_2, s4_3, s4_4⟩ (fun hHeld => ?_)
        clear hK K
        refine norm_ (a' := ?_) ?_ ?_
        rotate_left
        · show Act.put _ (some 48) _ = _
          simp only [Act.put, List.setIfInBounds_toArray, List.set_cons_zero, List.set_cons_succ, i64_w, i32_w]
          rfl
        refine one_ (i := 6) (N := some 49) #[true, true, true, true, true, true, true, false] rfl rfl (by kernel_rfl) (by decide) (fun K hK => ?_)
        refine appendN_arm (v := .slice a45 X.length c45) (by rfl) rfl rfl i0 _ 48 Try.underlying25 hi hz0 hz1 hz2 rfl (n := X.length) (xs := flat X) rfl g48 1 c48 rfl h45.out hQ4.out.size (flat [d]) (flat_len _) (own_news h48.out) (one_cel _) g63.out g64.out ?_
        intro v49 q5 hr hg
        have hQ5 := hQ4.out.grown hg hQ4.out.size (fun k hk => (own_blk h45.out hk).1)
        have n49 : Own q5 w5.heap.size v49 (X ++ [d]) := by
          unfold Own
          rw [List.length_append, flat_append]
          exact hr
        have h49 := Lib.hid n49
        clear hr hg n49 h45 h48
        replace hQ5 := Lib.hid hQ5
        have s5_0 := (hQ5.out.cell (p := ⟨db, 0, none⟩) hdb).trans d0
        have s5_1 := (hQ5.out.cell (p := ⟨db, 1, none⟩) hdb).trans d1
        have s5_2 := (hQ5.out.cell (p := ⟨db, 2, none⟩) hdb).trans d2
        have s5_3 := (hQ5.out.cell (p := ⟨db, 3, none⟩) hdb).trans d3
        have s5_4 := (hQ5.out.cell (p := ⟨db, 4, none⟩) hdb).trans d4
        refine hK.out _ _ ⟨s5_0, s5_1, s5_2, s5_3, s5_4⟩ (fun hHeld => ?_)
        clear hK K
        refine norm_ (a' := ?_) ?_ ?_
        rotate_left
        · show Act.put _ (some 49) _ = _
          simp only [Act.put, List.setIfInBounds_toArray, List.set_cons_zero, List.set_cons_succ, i64_w, i32_w]
          rfl
        refine pure_ (i := 7) (N := some 12) (v := ?_) (a' := ?_) #[true, true, true, true, true, true, true, true] rfl rfl (by kernel_rfl) (fun _ _ _ h => h) (Or.inl ⟨by rfl, ?_⟩) ?_ ?_
        rotate_left
        · intro w'
          go_simp
          with_reducible rfl
        rotate_left
        · simp only [Act.put, List.setIfInBounds_toArray, List.set_cons_zero, List.set_cons_succ, i64_w, i32_w]
          rfl
        refine done_ (by kernel_rfl) ?_
        have o6 := own_below o5.out hQ5.out
        obtain ⟨q6, e6, nE6, -, b6⟩ := newE q5 29 w5.heap.size 5 hQ5.out.size
        subst e6
        have hx6 := own_below o6 b6
        have Q6 := hQ5.out.trans (b6.mono hQ5.out.size)
        have hB6 := Q6.size
        have fin : ∀ v' q7, q7.ownsRow w5.heap.size 29 5 v' (0 + X.length) ([] ++ flat X) → (q5.alloc (.cells #[] 29)).grownBy q7 (Value.slice (some ⟨q5.heap.size, 0, none⟩) 0 0).ownBlock → (v'.ownBlock = (Value.slice (some ⟨q5.heap.size, 0, none⟩) 0 0).ownBlock ∨ v'.ownBlock = some (q5.alloc (.cells #[] 29)).heap.size) → Own q7 w5.heap.size v' X ∧ Below w5.heap.size w5 q7 ∧ Own q7 w5.heap.size v49 (X ++ [d]) ∧ ∀ k, v49.ownBlock = some k → v'.ownBlock ≠ some k := fun v' q7 hr hg hat => by
          rw [Nat.zero_add, List.nil_append] at hr
          refine ⟨hr, Q6.grown hg Q6.size (fun k hk => (own_blk nE6 hk).1), own_grown (own_below h49.out b6) hg (fun k hk e => ?_), fun k hk e => ?_⟩
          · have q1 := (own_blk h49.out hk).2.1
            simp only [Value.ownBlock, Option.some.injEq] at e
            omega
          · have q1 := (own_blk h49.out hk).2.1
            have q2 := b6.size
            rcases hat with x | x
            · rw [e] at x; simp only [Value.ownBlock, Option.some.injEq] at x; omega
            · rw [e] at x; injection x with x; omega
        replace fin := Lib.hid fin
        obtain ⟨a49, c49, e49, -, -⟩ := own_any h49.out
        subst e49
        clear o6 b6 Q6
        go_upto_region 13 with (first
          | (at_builtin; refine wpList_append_own_at _ rfl _ _ 25 rfl w5.heap.size 29 i0 _ 5 48 Try.underlying25 hi hz0 hz1 hz2 rfl (by decide) _ _ _ rfl nE6 ⟨gx, 0, none⟩ X.length cx (flat X) rfl (flat_len X) (own_news hx6) (one_cel X) h63.out h64.out hB6 ?_; intro v13 q7 hr7 hg7 hn7 hat7)
          | go_in)
        obtain ⟨f13, f7, f49, fne⟩ := fin.out v13 q7 hr7 hg7 hat7
        have hmX : zn % X.length < X.length := Nat.mod_lt _ (by omega)
        have hmod : ((zn : Int) % (X.length : Int)) = ((zn % X.length : Nat) : Int) := by norm_cast
        have hmod2 : ((zn : Int).tmod (X.length : Int)) = ((zn % X.length : Nat) : Int) := by norm_cast
        generalize zn % X.length = m at *
        obtain ⟨g13, c13, e13, hB13, hg13, hc13⟩ := own_cells f13 hmX
        subst e13
        obtain ⟨k0, k1, k2, k3, k4⟩ := hc13
        have kf := own_frozen f13 (m * 5 + 4)
        have hne0 : ¬ (X.length : Int) = 0 := by omega
        have hne1 : ¬ X.length = 0 := by omega
        have hne2 : ¬ X = [] := fun e => hne1 (by rw [e]; rfl)
        clear hr7 hg7 hn7 hat7 nE6 hx6 hB6 fin
        go_upto_region 14 with fail
        obtain ⟨q8, e8⟩ : ∃ q8, q8 = q7.setCell ⟨g13, m * 5 + 4, none⟩ (.int .i64 (-1)) := ⟨_, rfl⟩
        rw [← e8]
        have g8 : Own q8 w5.heap.size (.slice (some ⟨g13, 0, none⟩) X.length c13) (X.set m { at' X m with ret := -1 }) := by
          rw [e8]; exact own_set5 rfl f13 hmX _ 4 _ (by omega) rfl
        have on8 : Only (fun k => k = g13) q7 q8 := by
          rw [e8]; exact (refl (fun k => k = g13) q7).setCell (p := ⟨g13, m * 5 + 4, none⟩) (fun _ => rfl) _
        have m8 : Own q8 w5.heap.size (.slice a49 (X ++ [d]).length c49) (X ++ [d]) := own_keep f49 on8 (fun k hk e => fne k hk (congrArg some e.symm))
        have B8 : Below W.heap.size W q8 := by
          rw [e8]
          exact below_set (B5.out.trans (f7.mono B5.out.size)) (Nat.le_trans B5.out.size hB13) _
        have FX1 := fitsAll (hF.out.below B8) m8 (fun x hx => by
          rcases List.mem_append.1 hx with q | q
          · exact hkX x q
          · have : x = d := by simpa using q
            rw [this]; exact hkd)
        rw [fit_more ho hX11 hfx.out] at FX1
        have FX2 : ∀ q9, Below q8.heap.size q8 q9 → Calls Try.prog 13 #[.slice af zs.length capf, .slice (some ⟨g13, 0, none⟩) X.length c13] q9 fun e w' => e = .returned (.bool true) ∧ Below q9.heap.size q9 w' := fun q9 b9 => by
          have h := fitsAll (hF.out.below (B8.trans (b9.mono B8.size))) (own_below g8 b9) (all_at (fun j hj => by
            rw [List.length_set] at hj
            rw [at_set hmX]
            by_cases q : j = m
            · rw [if_pos q]; exact hkX (at' X m) (at_mem hmX)
            · rw [if_neg q]; exact hkX (at' X j) (at_mem hj)))
          rw [fit_open hmX hfx.out] at h
          exact h
        rw [List.length_append] at FX1
        replace FX1 := Lib.hid FX1
        replace FX2 := Lib.hid FX2
        replace B8 := Lib.hid B8
        clear e8 g8 on8 m8 k0 k1 k2 k3 k4 kf f13 f7 f49 fne
        go_wp2_with fail
        refine FX1.out.mono ?_
        rintro e q9 ⟨rfl, b9⟩
        have FX3 := FX2.out q9 b9
        replace FX3 := Lib.hid FX3
        replace b9 := Lib.hid b9
        go_wp2_with fail
        refine FX3.out.mono ?_
        rintro e q10 ⟨rfl, b10⟩
        go_wp2_with fail
        go_ret
        exact ⟨rfl, (B8.out.trans (b9.out.mono B8.out.size)).trans (b10.mono (Nat.le_trans B8.out.size b9.out.size))⟩
      · refine value_ (w1 := ?_) (v := ?_) (by rfl) rfl ?_ ?_
        rotate_left 2
        · go_simp
          constructor
          · rfl
          · rfl
        obtain ⟨q2, en, nFh, hb⟩ := newR q1 d
        rw [← en]
        have hQ2 := hQ1.out.trans (hb.mono hQ1.out.size)
        replace hE := Lib.hid (own_below hE.out hb)
        replace hEh := Lib.hid ((hb.block _ (lt_of_heap hEh.out)).trans hEh.out)
        replace hQ2 := Lib.hid hQ2
        have hFh := Lib.hid nFh
        clear en hb nFh
        have s2_0 := (hQ2.out.cell (p := ⟨db, 0, none⟩) hdb).trans d0
        have s2_1 := (hQ2.out.cell (p := ⟨db, 1, none⟩) hdb).trans d1
        have s2_2 := (hQ2.out.cell (p := ⟨db, 2, none⟩) hdb).trans d2
        have s2_3 := (hQ2.out.cell (p := ⟨db, 3, none⟩) hdb).trans d3
        have s2_4 := (hQ2.out.cell (p := ⟨db, 4, none⟩) hdb).trans d4
        refine hK.out _ _ ⟨s2_0, s2_1, s2_2, s2_3, s2_4⟩ (fun hHeld => ?_)
        clear hK K
        refine norm_ (a' := ?_) ?_ ?_
        rotate_left
        · show Act.put _ (some 47) _ = _
          simp only [Act.put, List.setIfInBounds_toArray, List.set_cons_zero, List.set_cons_succ, i64_w, i32_w]
          rfl
        refine one_ (i := 2) (N := some 45) #[true, true, true, true, true, false, false, false] rfl rfl (by kernel_rfl) (by decide) (fun K hK => ?_)
        have hxo := own_below o5.out hQ2.out
        refine appendN_arm (v := .slice (some ⟨w5.drew.heap.size, 0, none⟩) 0 0) (by rfl) rfl rfl i0 _ 48 Try.underlying25 hi hz0 hz1 hz2 rfl (n := 0) (xs := []) rfl gx X.length cx rfl hE.out hQ2.out.size (flat X) (flat_len X) (own_news hxo) (one_cel X) h63.out h64.out ?_
        intro v45 q3 hr hg
        have hQ3 := hQ2.out.grown hg hQ2.out.size (fun k hk => (own_blk hE.out hk).1)
        replace hFh := Lib.hid ((hg.block _ (lt_of_heap hFh.out) (fun e => by simp only [Value.ownBlock, Option.some.injEq] at e; exact heap_ne hEh.out hFh.out e)).trans hFh.out)
        rw [Nat.zero_add, List.nil_append] at hr
        have n45 : Own q3 w5.heap.size v45 X := hr
        obtain ⟨a45, c45, e45, -, -⟩ := own_any n45
        subst e45
        have h45 := Lib.hid n45
        clear hr hg hxo n45 hE hEh
        replace hQ3 := Lib.hid hQ3
        have s3_0 := (hQ3.out.cell (p := ⟨db, 0, none⟩) hdb).trans d0
        have s3_1 := (hQ3.out.cell (p := ⟨db, 1, none⟩) hdb).trans d1
        have s3_2 := (hQ3.out.cell (p := ⟨db, 2, none⟩) hdb).trans d2
        have s3_3 := (hQ3.out.cell (p := ⟨db, 3, none⟩) hdb).trans d3
        have s3_4 := (hQ3.out.cell (p := ⟨db, 4, none⟩) hdb).trans d4
        refine hK.out _ _ ⟨s3_0, s3_1, s3_2, s3_3, s3_4⟩ (fun hHeld => ?_)
        clear hK K
        refine norm_ (a' := ?_) ?_ ?_
        rotate_left
        · show Act.put _ (some 45) _ = _
          simp only [Act.put, List.setIfInBounds_toArray, List.set_cons_zero, List.set_cons_succ, i64_w, i32_w]
          rfl
        refine one_ (i := 5) (N := some 48) #[true, true, true, true, true, true, false, false] rfl rfl (by kernel_rfl) (by decide) (fun K hK => ?_)
        refine goes_ Try.func10 (by kernel_rfl) rfl #[.slice (some ⟨q1.heap.size, 0, none⟩) 1 1] (by rfl) rfl rfl (by simp only [List.map_toArray, List.map_cons, List.map_nil]; rfl) ?_
        with_reducible refine (madeC (slR_heap hFh.out) (by simp)).mono ?_
        rintro e q4 ⟨v48, rfl, n48, hb⟩
        obtain ⟨g48, c48, e48, -, -, -⟩ := own_cells n48 (by simp : 0 < [d].length)
        subst e48
        refine ⟨_, rfl, ?_⟩
        have hQ4 := hQ3.out.trans (hb.mono hQ3.out.size)
        replace h45 := Lib.hid (own_below h45.out hb)
        replace hFh := Lib.hid ((hb.block _ (lt_of_heap hFh.out)).trans hFh.out)
        replace hQ4 := Lib.hid hQ4
        have h48 := Lib.hid n48
        clear hb n48
        have s4_0 := (hQ4.out.cell (p := ⟨db, 0, none⟩) hdb).trans d0
        have s4_1 := (hQ4.out.cell (p := ⟨db, 1, none⟩) hdb).trans d1
        have s4_2 := (hQ4.out.cell (p := ⟨db, 2, none⟩) hdb).trans d2
        have s4_3 := (hQ4.out.cell (p := ⟨db, 3, none⟩) hdb).trans d3
        have s4_4 := (hQ4.out.cell (p := ⟨db, 4, none⟩) hdb).trans d4
        refine hK.out _ _ ⟨s4_0, s4_1, s4_2, s4_3, s4_4⟩ (fun hHeld => ?_)
        clear hK K
        refine norm_ (a' := ?_) ?_ ?_
        rotate_left
        · show Act.put _ (some 48) _ = _
          simp only [Act.put, List.setIfInBounds_toArray, List.set_cons_zero, List.set_cons_succ, i64_w, i32_w]
          rfl
        refine one_ (i := 6) (N := some 49) #[true, true, true, true, true, true, true, false] rfl rfl (by kernel_rfl) (by decide) (fun K hK => ?_)
        refine appendN_arm (v := .slice a45 X.length c45) (by rfl) rfl rfl i0 _ 48 Try.underlying25 hi hz0 hz1 hz2 rfl (n := X.length) (xs := flat X) rfl g48 1 c48 rfl h45.out hQ4.out.size (flat [d]) (flat_len _) (own_news h48.out) (one_cel _) g63.out g64.out ?_
        intro v49 q5 hr hg
        have hQ5 := hQ4.out.grown hg hQ4.out.size (fun k hk => (own_blk h45.out hk).1)
        have n49 : Own q5 w5.heap.size v49 (X ++ [d]) := by
          unfold Own
          rw [List.length_append, flat_append]
          exact hr
        have h49 := Lib.hid n49
        clear hr hg n49 h45 h48
        replace hQ5 := Lib.hid hQ5
        have s5_0 := (hQ5.out.cell (p := ⟨db, 0, none⟩) hdb).trans d0
        have s5_1 := (hQ5.out.cell (p := ⟨db, 1, none⟩) hdb).trans d1
        have s5_2 := (hQ5.out.cell (p := ⟨db, 2, none⟩) hdb).trans d2
        have s5_3 := (hQ5.out.cell (p := ⟨db, 3, none⟩) hdb).trans d3
        have s5_4 := (hQ5.out.cell (p := ⟨db, 4, none⟩) hdb).trans d4
        refine hK.out _ _ ⟨s5_0, s5_1, s5_2, s5_3, s5_4⟩ (fun hHeld => ?_)
        clear hK K
        refine norm_ (a' := ?_) ?_ ?_
        rotate_left
        · show Act.put _ (some 49) _ = _
          simp only [Act.put, List.setIfInBounds_toArray, List.set_cons_zero, List.set_cons_succ, i64_w, i32_w]
          rfl
        refine pure_ (i := 7) (N := some 12) (v := ?_) (a' := ?_) #[true, true, true, true, true, true, true, true] rfl rfl (by kernel_rfl) (fun _ _ _ h => h) (Or.inl ⟨by rfl, ?_⟩) ?_ ?_
        rotate_left
        · intro w'
          go_simp
          with_reducible rfl
        rotate_left
        · simp only [Act.put, List.setIfInBounds_toArray, List.set_cons_zero, List.set_cons_succ, i64_w, i32_w]
          rfl
        refine done_ (by kernel_rfl) ?_
        have o6 := own_below o5.out hQ5.out
        obtain ⟨q6, e6, nE6, -, b6⟩ := newE q5 29 w5.heap.size 5 hQ5.out.size
        subst e6
        have hx6 := own_below o6 b6
        have Q6 := hQ5.out.trans (b6.mono hQ5.out.size)
        have hB6 := Q6.size
        have fin : ∀ v' q7, q7.ownsRow w5.heap.size 29 5 v' (0 + X.length) ([] ++ flat X) → (q5.alloc (.cells #[] 29)).grownBy q7 (Value.slice (some ⟨q5.heap.size, 0, none⟩) 0 0).ownBlock → (v'.ownBlock = (Value.slice (some ⟨q5.heap.size, 0, none⟩) 0 0).ownBlock ∨ v'.ownBlock = some (q5.alloc (.cells #[] 29)).heap.size) → Own q7 w5.heap.size v' X ∧ Below w5.heap.size w5 q7 ∧ Own q7 w5.heap.size v49 (X ++ [d]) ∧ ∀ k, v49.ownBlock = some k → v'.ownBlock ≠ some k := fun v' q7 hr hg hat => by
          rw [Nat.zero_add, List.nil_append] at hr
          refine ⟨hr, Q6.grown hg Q6.size (fun k hk => (own_blk nE6 hk).1), own_grown (own_below h49.out b6) hg (fun k hk e => ?_), fun k hk e => ?_⟩
          · have q1 := (own_blk h49.out hk).2.1
            simp only [Value.ownBlock, Option.some.injEq] at e
            omega
          · have q1 := (own_blk h49.out hk).2.1
            have q2 := b6.size
            rcases hat with x | x
            · rw [e] at x; simp only [Value.ownBlock, Option.some.injEq] at x; omega
            · rw [e] at x; injection x with x; omega
        replace fin := Lib.hid fin
        obtain ⟨a49, c49, e49, -, -⟩ := own_any h49.out
        subst e49
        clear o6 b6 Q6
        go_upto_region 13 with (first
          | (at_builtin; refine wpList_append_own_at _ rfl _ _ 25 rfl w5.heap.size 29 i0 _ 5 48 Try.underlying25 hi hz0 hz1 hz2 rfl (by decide) _ _ _ rfl nE6 ⟨gx, 0, none⟩ X.length cx (flat X) rfl (flat_len X) (own_news hx6) (one_cel X) h63.out h64.out hB6 ?_; intro v13 q7 hr7 hg7 hn7 hat7)
          | go_in)
        obtain ⟨f13, f7, f49, fne⟩ := fin.out v13 q7 hr7 hg7 hat7
        have hmX : zn % X.length < X.length := Nat.mod_lt _ (by omega)
        have hmod : ((zn : Int) % (X.length : Int)) = ((zn % X.length : Nat) : Int) := by norm_cast
        have hmod2 : ((zn : Int).tmod (X.length : Int)) = ((zn % X.length : Nat) : Int) := by norm_cast
        generalize zn % X.length = m at *
        obtain ⟨g13, c13, e13, hB13, hg13, hc13⟩ := own_cells f13 hmX
        subst e13
        obtain ⟨k0, k1, k2, k3, k4⟩ := hc13
        have kf := own_frozen f13 (m * 5 + 4)
        have hne0 : ¬ (X.length : Int) = 0 := by omega
        have hne1 : ¬ X.length = 0 := by omega
        have hne2 : ¬ X = [] := fun e => hne1 (by rw [e]; rfl)
        clear hr7 hg7 hn7 hat7 nE6 hx6 hB6 fin
        go_upto_region 14 with fail
        obtain ⟨q8, e8⟩ : ∃ q8, q8 = q7.setCell ⟨g13, m * 5 + 4, none⟩ (.int .i64 (-1)) := ⟨_, rfl⟩
        rw [← e8]
        have g8 : Own q8 w5.heap.size (.slice (some ⟨g13, 0, none⟩) X.length c13) (X.set m { at' X m with ret := -1 }) := by
          rw [e8]; exact own_set5 rfl f13 hmX _ 4 _ (by omega) rfl
        have on8 : Only (fun k => k = g13) q7 q8 := by
          rw [e8]; exact (refl (fun k => k = g13) q7).setCell (p := ⟨g13, m * 5 + 4, none⟩) (fun _ => rfl) _
        have m8 : Own q8 w5.heap.size (.slice a49 (X ++ [d]).length c49) (X ++ [d]) := own_keep f49 on8 (fun k hk e => fne k hk (congrArg some e.symm))
        have B8 : Below W.heap.size W q8 := by
          rw [e8]
          exact below_set (B5.out.trans (f7.mono B5.out.size)) (Nat.le_trans B5.out.size hB13) _
        have FX1 := fitsAll (hF.out.below B8) m8 (fun x hx => by
          rcases List.mem_append.1 hx with q | q
          · exact hkX x q
          · have : x = d := by simpa using q
            rw [this]; exact hkd)
        rw [fit_more ho hX11 hfx.out] at FX1
        have FX2 : ∀ q9, Below q8.heap.size q8 q9 → Calls Try.prog 13 #[.slice af zs.length capf, .slice (some ⟨g13, 0, none⟩) X.length c13] q9 fun e w' => e = .returned (.bool true) ∧ Below q9.heap.size q9 w' := fun q9 b9 => by
          have h := fitsAll (hF.out.below (B8.trans (b9.mono B8.size))) (own_below g8 b9) (all_at (fun j hj => by
            rw [List.length_set] at hj
            rw [at_set hmX]
            by_cases q : j = m
            · rw [if_pos q]; exact hkX (at' X m) (at_mem hmX)
            · rw [if_neg q]; exact hkX (at' X j) (at_mem hj)))
          rw [fit_open hmX hfx.out] at h
          exact h
        rw [List.length_append] at FX1
        replace FX1 := Lib.hid FX1
        replace FX2 := Lib.hid FX2
        replace B8 := Lib.hid B8
        clear e8 g8 on8 m8 k0 k1 k2 k3 k4 kf f13 f7 f49 fne
        go_wp2_with fail
        refine FX1.out.mono ?_
        rintro e q9 ⟨rfl, b9⟩
        have FX3 := FX2.out q9 b9
        replace FX3 := Lib.hid FX3
        replace b9 := Lib.hid b9
        go_wp2_with fail
        refine FX3.out.mono ?_
        rintro e q10 ⟨rfl, b10⟩
        go_wp2_with fail
        go_ret
        exact ⟨rfl, (B8.out.trans (b9.out.mono B8.out.size)).trans (b10.mono (Nat.le_trans B8.out.size b9.out.size))⟩
    · refine value_ (w1 := ?_) (v := ?_) (by rfl) rfl ?_ ?_
      rotate_left 2
      · go_simp
        constructor
        · rfl
        · rfl
      obtain ⟨q1, en, nFh, hb⟩ := newR w5.drew d
      replace en : q1 = (w5.alloc (.cells #[.int .i64 d.kind, .string d.key, .bool d.ok, .int .i64 d.inv, .int .i64 d.ret] 31)).drew := en
      rw [← en]
      have hQ1 := hQ0.out.trans (hb.mono hQ0.out.size)
      replace hQ1 := Lib.hid hQ1
      have hFh := Lib.hid nFh
      clear en hb nFh
      have s1_0 := (hQ1.out.cell (p := ⟨db, 0, none⟩) hdb).trans d0
      have s1_1 := (hQ1.out.cell (p := ⟨db, 1, none⟩) hdb).trans d1
      have s1_2 := (hQ1.out.cell (p := ⟨db, 2, none⟩) hdb).trans d2
      have s1_3 := (hQ1.out.cell (p := ⟨db, 3, none⟩) hdb).trans d3
      have s1_4 := (hQ1.out.cell (p := ⟨db, 4, none⟩) hdb).trans d4
      refine hK.out _ _ ⟨s1_0, s1_1, s1_2, s1_3, s1_4⟩ (fun hHeld => ?_)
      clear hK K
      refine norm_ (a' := ?_) ?_ ?_
      rotate_left
      · show Act.put _ (some 47) _ = _
        simp only [Act.put, List.setIfInBounds_toArray, List.set_cons_zero, List.set_cons_succ, i64_w, i32_w]
        rfl
      refine one_ (i := 0) (N := some 43) #[true, true, false, true, true, false, false, false] rfl rfl (by kernel_rfl) (by decide) (fun K hK => ?_)
      refine value_ (w1 := ?_) (v := ?_) (by rfl) rfl ?_ ?_
      rotate_left 2
      · go_simp
        constructor
        · rfl
        · rfl
      obtain ⟨q2, en, nE, nEh, hb⟩ := newE q1 29 w5.heap.size 5 hQ1.out.size
      rw [← en]
      have hQ2 := hQ1.out.trans (hb.mono hQ1.out.size)
      replace hFh := Lib.hid ((hb.block _ (lt_of_heap hFh.out)).trans hFh.out)
      replace hQ2 := Lib.hid hQ2
      have hE := Lib.hid nE
      have hEh := Lib.hid nEh
      clear en hb nE nEh
      have s2_0 := (hQ2.out.cell (p := ⟨db, 0, none⟩) hdb).trans d0
      have s2_1 := (hQ2.out.cell (p := ⟨db, 1, none⟩) hdb).trans d1
      have s2_2 := (hQ2.out.cell (p := ⟨db, 2, none⟩) hdb).trans d2
      have s2_3 := (hQ2.out.cell (p := ⟨db, 3, none⟩) hdb).trans d3
      have s2_4 := (hQ2.out.cell (p := ⟨db, 4, none⟩) hdb).trans d4
      refine hK.out _ _ ⟨s2_0, s2_1, s2_2, s2_3, s2_4⟩ (fun hHeld => ?_)
      clear hK K
      refine norm_ (a' := ?_) ?_ ?_
      rotate_left
      · show Act.put _ (some 43) _ = _
        simp only [Act.put, List.setIfInBounds_toArray, List.set_cons_zero, List.set_cons_succ, i64_w, i32_w]
        rfl
      refine one_ (i := 2) (N := some 45) #[true, true, true, true, true, false, false, false] rfl rfl (by kernel_rfl) (by decide) (fun K hK => ?_)
      have hxo := own_below o5.out hQ2.out
      refine appendN_arm (v := .slice (some ⟨q1.heap.size, 0, none⟩) 0 0) (by rfl) rfl rfl i0 _ 48 Try.underlying25 hi hz0 hz1 hz2 rfl (n := 0) (xs := []) rfl gx X.length cx rfl hE.out hQ2.out.size (flat X) (flat_len X) (own_news hxo) (one_cel X) h63.out h64.out ?_
      intro v45 q3 hr hg
      have hQ3 := hQ2.out.grown hg hQ2.out.size (fun k hk => (own_blk hE.out hk).1)
      replace hFh := Lib.hid ((hg.block _ (lt_of_heap hFh.out) (fun e => by simp only [Value.ownBlock, Option.some.injEq] at e; exact heap_ne hEh.out hFh.out e)).trans hFh.out)
      rw [Nat.zero_add, List.nil_append] at hr
      have n45 : Own q3 w5.heap.size v45 X := hr
      obtain ⟨a45, c45, e45, -, -⟩ := own_any n45
      subst e45
      have h45 := Lib.hid n45
      clear hr hg hxo n45 hE hEh
      replace hQ3 := Lib.hid hQ3
      have s3_0 := (hQ3.out.cell (p := ⟨db, 0, none⟩) hdb).trans d0
      have s3_1 := (hQ3.out.cell (p := ⟨db, 1, none⟩) hdb).trans d1
      have s3_2 := (hQ3.out.cell (p := ⟨db, 2, none⟩) hdb).trans d2
      have s3_3 := (hQ3.out.cell (p := ⟨db, 3, none⟩) hdb).trans d3
      have s3_4 := (hQ3.out.cell (p := ⟨db, 4, none⟩) hdb).trans d4
      refine hK.out _ _ ⟨s3_0, s3_1, s3_2, s3_3, s3_4⟩ (fun hHeld => ?_)
      clear hK K
      refine norm_ (a' := ?_) ?_ ?_
      rotate_left
      · show Act.put _ (some 45) _ = _
        simp only [Act.put, List.setIfInBounds_toArray, List.set_cons_zero, List.set_cons_succ, i64_w, i32_w]
        rfl
      refine one_ (i := 5) (N := some 48) #[true, true, true, true, true, true, false, false] rfl rfl (by kernel_rfl) (by decide) (fun K hK => ?_)
      refine goes_ Try.func10 (by kernel_rfl) rfl #[.slice (some ⟨w5.drew.heap.size, 0, none⟩) 1 1] (by rfl) rfl rfl (by simp only [List.map_toArray, List.map_cons, List.map_nil]; rfl) ?_
      with_reducible refine (madeC (slR_heap hFh.out) (by simp)).mono ?_
      rintro e q4 ⟨v48, rfl, n48, hb⟩
      obtain ⟨g48, c48, e48, -, -, -⟩ := own_cells n48 (by simp : 0 < [d].length)
      subst e48
      refine ⟨_, rfl, ?_⟩
      have hQ4 := hQ3.out.trans (hb.mono hQ3.out.size)
      replace h45 := Lib.hid (own_below h45.out hb)
      replace hFh := Lib.hid ((hb.block _ (lt_of_heap hFh.out)).trans hFh.out)
      replace hQ4 := Lib.hid hQ4
      have h48 := Lib.hid n48
      clear hb n48
      have s4_0 := (hQ4.out.cell (p := ⟨db, 0, none⟩) hdb).trans d0
      have s4_1 := (hQ4.out.cell (p := ⟨db, 1, none⟩) hdb).trans d1
      have s4_2 := (hQ4.out.cell (p := ⟨db, 2, none⟩) hdb).trans d2
      have s4_3 := (hQ4.out.cell (p := ⟨db, 3, none⟩) hdb).trans d3
      have s4_4 := (hQ4.out.cell (p := ⟨db, 4, none⟩) hdb).trans d4
      refine hK.out _ _ ⟨s4_0, s4_1, s4_2, s4_3, s4_4⟩ (fun hHeld => ?_)
      clear hK K
      refine norm_ (a' := ?_) ?_ ?_
      rotate_left
      · show Act.put _ (some 48) _ = _
        simp only [Act.put, List.setIfInBounds_toArray, List.set_cons_zero, List.set_cons_succ, i64_w, i32_w]
        rfl
      refine one_ (i := 6) (N := some 49) #[true, true, true, true, true, true, true, false] rfl rfl (by kernel_rfl) (by decide) (fun K hK => ?_)
      refine appendN_arm (v := .slice a45 X.length c45) (by rfl) rfl rfl i0 _ 48 Try.underlying25 hi hz0 hz1 hz2 rfl (n := X.length) (xs := flat X) rfl g48 1 c48 rfl h45.out hQ4.out.size (flat [d]) (flat_len _) (own_news h48.out) (one_cel _) g63.out g64.out ?_
      intro v49 q5 hr hg
      have hQ5 := hQ4.out.grown hg hQ4.out.size (fun k hk => (own_blk h45.out hk).1)
      have n49 : Own q5 w5.heap.size v49 (X ++ [d]) := by
        unfold Own
        rw [List.length_append, flat_append]
        exact hr
      have h49 := Lib.hid n49
      clear hr hg n49 h45 h48
      replace hQ5 := Lib.hid hQ5
      have s5_0 := (hQ5.out.cell (p := ⟨db, 0, none⟩) hdb).trans d0
      have s5_1 := (hQ5.out.cell (p := ⟨db, 1, none⟩) hdb).trans d1
      have s5_2 := (hQ5.out.cell (p := ⟨db, 2, none⟩) hdb).trans d2
      have s5_3 := (hQ5.out.cell (p := ⟨db, 3, none⟩) hdb).trans d3
      have s5_4 := (hQ5.out.cell (p := ⟨db, 4, none⟩) hdb).trans d4
      refine hK.out _ _ ⟨s5_0, s5_1, s5_2, s5_3, s5_4⟩ (fun hHeld => ?_)
      clear hK K
      refine norm_ (a' := ?_) ?_ ?_
      rotate_left
      · show Act.put _ (some 49) _ = _
        simp only [Act.put, List.setIfInBounds_toArray, List.set_cons_zero, List.set_cons_succ, i64_w, i32_w]
        rfl
      refine pure_ (i := 7) (N := some 12) (v := ?_) (a' := ?_) #[true, true, true, true, true, true, true, true] rfl rfl (by kernel_rfl) (fun _ _ _ h => h) (Or.inl ⟨by rfl, ?_⟩) ?_ ?_
      rotate_left
      · intro w'
        go_simp
        with_reducible rfl
      rotate_left
      · simp only [Act.put, List.setIfInBounds_toArray, List.set_cons_zero, List.set_cons_succ, i64_w, i32_w]
        rfl
      refine done_ (by kernel_rfl) ?_
      have o6 := own_below o5.out hQ5.out
      obtain ⟨q6, e6, nE6, -, b6⟩ := newE q5 29 w5.heap.size 5 hQ5.out.size
      subst e6
      have hx6 := own_below o6 b6
      have Q6 := hQ5.out.trans (b6.mono hQ5.out.size)
      have hB6 := Q6.size
      have fin : ∀ v' q7, q7.ownsRow w5.heap.size 29 5 v' (0 + X.length) ([] ++ flat X) → (q5.alloc (.cells #[] 29)).grownBy q7 (Value.slice (some ⟨q5.heap.size, 0, none⟩) 0 0).ownBlock → (v'.ownBlock = (Value.slice (some ⟨q5.heap.size, 0, none⟩) 0 0).ownBlock ∨ v'.ownBlock = some (q5.alloc (.cells #[] 29)).heap.size) → Own q7 w5.heap.size v' X ∧ Below w5.heap.size w5 q7 ∧ Own q7 w5.heap.size v49 (X ++ [d]) ∧ ∀ k, v49.ownBlock = some k → v'.ownBlock ≠ some k := fun v' q7 hr hg hat => by
        rw [Nat.zero_add, List.nil_append] at hr
        refine ⟨hr, Q6.grown hg Q6.size (fun k hk => (own_blk nE6 hk).1), own_grown (own_below h49.out b6) hg (fun k hk e => ?_), fun k hk e => ?_⟩
        · have q1 := (own_blk h49.out hk).2.1
          simp only [Value.ownBlock, Option.some.injEq] at e
          omega
        · have q1 := (own_blk h49.out hk).2.1
          have q2 := b6.size
          rcases hat with x | x
          · rw [e] at x; simp only [Value.ownBlock, Option.some.injEq] at x; omega
          · rw [e] at x; injection x with x; omega
      replace fin := Lib.hid fin
      obtain ⟨a49, c49, e49, -, -⟩ := own_any h49.out
      subst e49
      clear o6 b6 Q6
      go_upto_region 13 with (first
        | (at_builtin; refine wpList_append_own_at _ rfl _ _ 25 rfl w5.heap.size 29 i0 _ 5 48 Try.underlying25 hi hz0 hz1 hz2 rfl (by decide) _ _ _ rfl nE6 ⟨gx, 0, none⟩ X.length cx (flat X) rfl (flat_len X) (own_news hx6) (one_cel X) h63.out h64.out hB6 ?_; intro v13 q7 hr7 hg7 hn7 hat7)
        | go_in)
      obtain ⟨f13, f7, f49, fne⟩ := fin.out v13 q7 hr7 hg7 hat7
      have hmX : zn % X.length < X.length := Nat.mod_lt _ (by omega)
      have hmod : ((zn : Int) % (X.length : Int)) = ((zn % X.length : Nat) : Int) := by norm_cast
      have hmod2 : ((zn : Int).tmod (X.length : Int)) = ((zn % X.length : Nat) : Int) := by norm_cast
      generalize zn % X.length = m at *
      obtain ⟨g13, c13, e13, hB13, hg13, hc13⟩ := own_cells f13 hmX
      subst e13
      obtain ⟨k0, k1, k2, k3, k4⟩ := hc13
      have kf := own_frozen f13 (m * 5 + 4)
      have hne0 : ¬ (X.length : Int) = 0 := by omega
      have hne1 : ¬ X.length = 0 := by omega
      have hne2 : ¬ X = [] := fun e => hne1 (by rw [e]; rfl)
      clear hr7 hg7 hn7 hat7 nE6 hx6 hB6 fin
      go_upto_region 14 with fail
      obtain ⟨q8, e8⟩ : ∃ q8, q8 = q7.setCell ⟨g13, m * 5 + 4, none⟩ (.int .i64 (-1)) := ⟨_, rfl⟩
      rw [← e8]
      have g8 : Own q8 w5.heap.size (.slice (some ⟨g13, 0, none⟩) X.length c13) (X.set m { at' X m with ret := -1 }) := by
        rw [e8]; exact own_set5 rfl f13 hmX _ 4 _ (by omega) rfl
      have on8 : Only (fun k => k = g13) q7 q8 := by
        rw [e8]; exact (refl (fun k => k = g13) q7).setCell (p := ⟨g13, m * 5 + 4, none⟩) (fun _ => rfl) _
      have m8 : Own q8 w5.heap.size (.slice a49 (X ++ [d]).length c49) (X ++ [d]) := own_keep f49 on8 (fun k hk e => fne k hk (congrArg some e.symm))
      have B8 : Below W.heap.size W q8 := by
        rw [e8]
        exact below_set (B5.out.trans (f7.mono B5.out.size)) (Nat.le_trans B5.out.size hB13) _
      have FX1 := fitsAll (hF.out.below B8) m8 (fun x hx => by
        rcases List.mem_append.1 hx with q | q
        · exact hkX x q
        · have : x = d := by simpa using q
          rw [this]; exact hkd)
      rw [fit_more ho hX11 hfx.out] at FX1
      have FX2 : ∀ q9, Below q8.heap.size q8 q9 → Calls Try.prog 13 #[.slice af zs.length capf, .slice (some ⟨g13, 0, none⟩) X.length c13] q9 fun e w' => e = .returned (.bool true) ∧ Below q9.heap.size q9 w' := fun q9 b9 => by
        have h := fitsAll (hF.out.below (B8.trans (b9.mono B8.size))) (own_below g8 b9) (all_at (fun j hj => by
          rw [List.length_set] at hj
          rw [at_set hmX]
          by_cases q : j = m
          · rw [if_pos q]; exact hkX (at' X m) (at_mem hmX)
          · rw [if_neg q]; exact hkX (at' X j) (at_mem hj)))
        rw [fit_open hmX hfx.out] at h
        exact h
      rw [List.length_append] at FX1
      replace FX1 := Lib.hid FX1
      replace FX2 := Lib.hid FX2
      replace B8 := Lib.hid B8
      clear e8 g8 on8 m8 k0 k1 k2 k3 k4 kf f13 f7 f49 fne
      go_wp2_with fail
      refine FX1.out.mono ?_
      rintro e q9 ⟨rfl, b9⟩
      have FX3 := FX2.out q9 b9
      replace FX3 := Lib.hid FX3
      replace b9 := Lib.hid b9
      go_wp2_with fail
      refine FX3.out.mono ?_
      rintro e q10 ⟨rfl, b10⟩
      go_wp2_with fail
      go_ret
      exact ⟨rfl, (B8.out.trans (b9.out.mono B8.out.size)).trans (b10.mono (Nat.le_trans B8.out.size b9.out.size))⟩
theorem walk (V1 : Value) (zs1 : List (List Value)) (V2 : Value) (zs2 : List (List Value)) (z : Int) (hz : 0 ≤ z ∧ z ≤ 255) (W : World) (h1 : StructsV [.str] W V1 zs1) (h2 : StructsV [.int .i64, .str, .bool, .int .i64, .int .i64] W V2 zs2) (hcap : ∀ a n cap, V2 = .slice a n cap → n ≤ cap) :
    Calls Try.prog 7 #[V1, V2, .int .u8 z] W fun e w' => e = .returned (.bool true) ∧ Below W.heap.size W w' :=
  core (strs_of h1) (slR_of h2).1 (slR_of h2).2 hz hcap
end Go.Proofs.Ytecjkpjcmgohmab.WalkOrderMore
