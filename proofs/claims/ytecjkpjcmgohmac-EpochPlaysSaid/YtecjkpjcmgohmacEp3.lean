/- A pool: Retire. Laid by genep3.py. -/
import Derived.Test.YtecjkpjcmgohmacEp2
import Derived.Test.YtecjkpjcmgohmacWLast
namespace Go.Proofs.Ytecjkpjcmgohmac.Ep
open Go Go.RowKit Go.Maps Go.Proofs.Ytecjkpjcmgohmac.Only Go.Proofs.YtecjkpjcmgohmacW.PrintLast
set_option linter.unusedVariables false
set_option linter.unusedSimpArgs false

theorem info_u64 : (Try.prog.info? 29).map (fun i => (i.zero, i.size, i.bytes)) = some (some (.int .u64 0), 1, 8) := by kernel_rfl
theorem info_int : (Try.prog.info? 3).map (fun i => (i.zero, i.size, i.bytes)) = some (some (.int .i64 0), 1, 8) := by kernel_rfl
theorem law : Keyed Try.prog 3 := int_keyed Try.underlying3
theorem zeroE (w : World) : (zeroValue 41).run Try.prog w = .ok nilV w := by kernel_rfl
theorem keyI (e : Int) (h : -9223372036854775808 ≤ e ∧ e ≤ 9223372036854775807) : keyOf Try.prog 3 (.int .i64 e) = some (.int .i64 e) :=
  keyOf_int_mk Try.underlying3 (WalkArith.wf_i64 h)
theorem lookup_eq {w : World} {mb n : Nat} {G : List Grp} (h : w.ownsMap Try.prog 3 heldR mb n (dat G)) (e : Int) (he : -9223372036854775808 ≤ e ∧ e ≤ 9223372036854775807) :
    (Instr.lookup 50 (.map (some mb)) (.int .i64 e) false).run Try.prog w = .ok (valOf G e) w := by
  obtain ⟨v, ps, hrun, hv⟩ := h.lookup law Try.underlying50 (zeroE w) (zd := .held nilV) (zp := []) rfl (keyI e he)
  rw [dat_at] at hv
  unfold heldR at hv
  simp at hv
  rw [hrun, hv.1]

section
variable {B pb mb : Nat} {vin : Value} {inn : List Int} {ep : Int} {G : List Grp} {w w' : World}
theorem find_at (G : List Grp) (e : Int) : (∃ g ∈ G, g.e = e ∧ valOf G e = g.v ∧ xsOf G e = g.xs) ∨ (valOf G e = nilV ∧ xsOf G e = []) := by
  unfold valOf xsOf
  cases h : G.find? (fun g => g.e == e) with
  | none => exact .inr ⟨rfl, rfl⟩
  | some g =>
    have h1 := List.find?_some h
    exact .inl ⟨g, List.mem_of_find?_eq_some h, by simpa using h1, rfl, rfl⟩
theorem PoolR.val (h : PoolR B pb mb vin inn ep G w) (e : Int) : w.ownsRow B 29 1 (valOf G e) (xsOf G e).length ((xsOf G e).map (Value.int .u64)) := by
  rcases find_at G e with ⟨g, hg, -, e1, e2⟩ | ⟨e1, e2⟩
  · rw [e1, e2]; exact h.rows g hg
  · rw [e1, e2]; exact ⟨rfl, .inl ⟨rfl, rfl⟩⟩
theorem PoolR.valF (h : PoolR B pb mb vin inn ep G w) (e : Int) : ∀ k, (valOf G e).ownBlock = some k → PoolF pb mb vin G k := by
  intro k hk
  rcases find_at G e with ⟨g, hg, -, e1, -⟩ | ⟨e1, -⟩
  · rw [e1] at hk; exact .inr (.inr (.inr ⟨g, hg, hk⟩))
  · rw [e1] at hk; simp [nilV, Value.ownBlock] at hk
theorem mem_cut {g : Grp} {e : Int} : g ∈ cut G e ↔ g ∈ G ∧ g.e ≠ e := by
  unfold cut
  rw [List.mem_filter]
  simp
theorem PoolR.map_ne (h : PoolR B pb mb vin inn ep G w) {k : Nat} {cs : Array Value} {T : TypeId} (hk : w.heap[k]? = some (.cells cs T (0, 0))) : k ≠ mb := by
  rintro rfl
  obtain ⟨es, clock, h1, -⟩ := h.map
  rw [hk] at h1; simp at h1
theorem map_grown {n : Nat} {D : DataW Value} {row : Option Nat} (h : w.ownsMap Try.prog 3 heldR mb n D) (hg : w.grownBy w' row) (hne : some mb ≠ row) : w'.ownsMap Try.prog 3 heldR mb n D := h.kept hg hne

/-- 'append' of one element, as an arm. -/
theorem append1_arm {P : Program} {ops : Array Oper} {Q : Exit → Act → World → Prop} {oi : Oper} {N : Option Tmp} {a : Act} {w : World} {K : Act → World → Prop} {so xo : Operand} {t e : TypeId}
    (hw : Region.wanted oi (yielded ops a.tmps) = true) (hN : oi.dst = N) (ho : oi.op = .call { callee := .builtin .append, args := #[so, xo], argTypes := #[t, t] }) (i : TypeInfo) (z : Value) (bytes : Nat) (ht : P.underlying t = some (.slice e)) (hi : P.info? e = some i) (hz : i.zero = some z) (hsz : i.size = 1) (hby : i.bytes = bytes) (hzs : z.cells.size = 1)
    {B : Nat} {v : Value} {n : Nat} {xs : List Value} (hs : a.eval so = v) (f c : Nat) (hx : a.eval xo = .slice (some ⟨f, 0, none⟩) 1 c) (h : w.ownsRow B e 1 v n xs) (hB : B ≤ w.heap.size) (u : Value) (hu : u.oneCell' = true) (hnews : ∀ j y, [u][j]? = some y → w.cell? ((⟨f, 0, none⟩ : Addr).add j) = some y) (h63 : n + 1 ≤ maxLen) (hbytes : (n + 1) * bytes ≤ 140737488355328)
    (hk : ∀ v' w', w'.ownsRow B e 1 v' (n + 1) (xs ++ [u]) → w.grownBy w' v.ownBlock → (v'.ownBlock = v.ownBlock ∨ v'.ownBlock = some w.heap.size) → K (a.put N v') w') :
    if Region.wanted oi (yielded ops a.tmps) = true then Oper.wp P oi a w K Q else K (a.put N undef) w := by
  obtain ⟨v', w', hr, h1, h2, -, h3⟩ := run_append_own_at (P := P) w B t oi.type e i z 1 bytes ht hi hz hsz hby hzs (by decide) v n xs h ⟨f, 0, none⟩ 1 c [u] rfl hnews (by simpa using hu) h63 hbytes hB
  refine value_ (w1 := w') (v := v') hw hN ?_ (hk v' w' h1 h2 h3)
  unfold execOp
  simp only [ho, resolve, invoke, builtin, Sem.run_bind, Sem.run_pure, Result.andThen_ok, List.map_toArray, List.map_cons, List.map_nil, hs, hx, hr]
/-- A store into the map, as an arm. -/
theorem update_arm {ops : Array Oper} {Q : Exit → Act → World → Prop} {oi : Oper} {a : Act} {w : World} {K : Act → World → Prop} {m x v : Operand} {mb n : Nat} {G : List Grp} {e : Int} {u : Value} (xs : List Int)
    (hw : Region.wanted oi (yielded ops a.tmps) = true) (hN : oi.dst = none) (hop : oi.op = Op.mapUpdate 50 m x v) (hm : a.eval m = .map (some mb)) (hx : a.eval x = .int .i64 e) (hv : a.eval v = u) (he : -9223372036854775808 ≤ e ∧ e ≤ 9223372036854775807)
    (h : w.ownsMap Try.prog 3 heldR mb n (dat G)) (hn : n < maxLen) (ht : ∀ g ∈ G, g.e ≤ e)
    (hk : ∀ w', w'.ownsMap Try.prog 3 heldR mb (n + 1) (dat (cut G e ++ [⟨e, u, xs⟩])) → w.grownBy w' (some mb) → K a w') :
    if Region.wanted oi (yielded ops a.tmps) = true then Oper.wp Try.prog oi a w K Q else K (a.put none undef) w := by
  obtain ⟨w', hr, h1, h2⟩ := h.update law Try.underlying50 hn (val := u) (d := .held u) (ps := []) (keyI e he) rfl
  rw [dat_put G e u xs ht] at h1
  refine skip_ (w1 := w') hw hN ?_ (hk w' h1 h2)
  unfold execOp
  simp only [hop, Sem.run_bind, Sem.run_pure, Result.andThen_ok, hm, hx, hv, hr]

/-- What Retire leaves. -/
def Retired (B pb mb : Nat) (vin : Value) (inn : List Int) (ep : Int) (G : List Grp) (x : Int) (w : World) (e : Ending) (w' : World) : Prop :=
  e = .returned (.tuple #[]) ∧ ∃ v', PoolR B pb mb vin inn ep (cut G ep ++ [⟨ep, v', xsOf G ep ++ [x]⟩]) w' ∧ Only (PoolF pb mb vin G) w w' ∧ ∀ k, v'.ownBlock = some k → PoolF pb mb vin G k ∨ w.heap.size ≤ k

theorem retire_end {w1 w2 w3 : World} {v' : Value} {x : Int} {n : Nat} (h : PoolR B pb mb vin inn ep G w) (hB : B ≤ w.heap.size) (o1 : Below w.heap.size w w1) (hr : w2.ownsRow B 29 1 v' ((xsOf G ep).length + 1) ((xsOf G ep).map (Value.int .u64) ++ [.int .u64 x]))
    (hg : w1.grownBy w2 (valOf G ep).ownBlock) (hat : v'.ownBlock = (valOf G ep).ownBlock ∨ v'.ownBlock = some w1.heap.size) (hm : w3.ownsMap Try.prog 3 heldR mb n (dat (cut G ep ++ [⟨ep, v', xsOf G ep ++ [x]⟩]))) (hg3 : w2.grownBy w3 (some mb)) :
    PoolR B pb mb vin inn ep (cut G ep ++ [⟨ep, v', xsOf G ep ++ [x]⟩]) w3 ∧ Only (PoolF pb mb vin G) w w3 ∧ ∀ k, v'.ownBlock = some k → PoolF pb mb vin G k ∨ w.heap.size ≤ k := by
  have h1 := h.below o1
  have on2 : Only (PoolF pb mb vin G) w w2 := (ofBelow (S := PoolF pb mb vin G) o1).grown hg (fun k hk _ => h.valF ep k hk)
  have on3 : Only (PoolF pb mb vin G) w w3 := on2.grown hg3 (fun k hk _ => by injection hk with e; exact .inr (.inl e.symm))
  have s1 := o1.size
  have newF : ∀ k, v'.ownBlock = some k → PoolF pb mb vin G k ∨ w.heap.size ≤ k := by
    intro k hk
    rcases hat with e | e
    · exact .inl (h.valF ep k (e ▸ hk))
    · rw [hk] at e; injection e with e; exact .inr (by omega)
  have b1 := h1.blk
  have nb : ∀ k, (valOf G ep).ownBlock = some k → pb ≠ k := fun k hk e => by
    subst e; exact own_ty (h1.val ep) b1 (by decide) hk
  have pm : pb ≠ mb := h1.map_ne b1
  have i2 := own_grown h1.inn hg (fun k hk e => by
    obtain ⟨cs, hc⟩ := (own_blk h1.inn hk).2.2
    exact own_ty (h1.val ep) hc (by decide) e)
  have nm : ∀ {k : Nat} {T : TypeId} {cs : Array Value}, w1.heap[k]? = some (.cells cs T (0, 0)) → some mb ≠ some k := fun hc e => by injection e with e; exact h1.map_ne hc e.symm
  have rows2 : ∀ g ∈ cut G ep, w3.ownsRow B 29 1 g.v g.xs.length (g.xs.map (Value.int .u64)) := by
    intro g hg'
    obtain ⟨hgG, hge⟩ := mem_cut.1 hg'
    have r1 := h1.rows g hgG
    have r2 := own_grown r1 hg (fun k hk e => by
      rcases find_at G ep with ⟨g0, hg0, e0, e1, -⟩ | ⟨e1, -⟩
      · rw [e1] at e; exact h.apart g hgG g0 hg0 (by rw [e0]; exact hge) k hk e
      · rw [e1] at e; simp [nilV, Value.ownBlock] at e)
    exact own_grown r2 hg3 (fun k hk e => by
      obtain ⟨cs, hc⟩ := (own_blk r1 hk).2.2
      exact nm hc e)
  have r3 : w3.ownsRow B 29 1 v' (xsOf G ep ++ [x]).length ((xsOf G ep ++ [x]).map (Value.int .u64)) := by
    have := own_grown hr hg3 (fun k hk e => by
      obtain ⟨cs, hc⟩ := (own_blk hr hk).2.2
      obtain ⟨es, clock, hmm, -⟩ := h1.map.kept hg (fun e2 => by
        obtain ⟨cs2, hc2⟩ := (own_blk (h1.val ep) e2.symm).2.2
        exact h1.map_ne hc2 rfl)
      injection e with e
      subst e
      rw [hc] at hmm; simp at hmm)
    simpa using this
  have blk3 : w3.heap[pb]? = some (.cells #[vin, .int .i64 ep, .map (some mb)] 52 (0, 0)) := by
    refine (hg3.block pb (Nat.lt_of_lt_of_le (lt_of_heap b1) hg.size) (fun e => by injection e with e; exact pm e)).trans ((hg.block pb (lt_of_heap b1) (fun e => nb pb e.symm rfl)).trans b1)
  refine ⟨⟨blk3, own_grown i2 hg3 (fun k hk e => ?_), tight hm, fun g hg' => ?_, fun a ha b hb hab k hk hk2 => ?_, ?_, fun g hg' => ?_, h.pbB, h.mbB⟩, on3, newF⟩
  · obtain ⟨cs, hc⟩ := (own_blk h1.inn hk).2.2
    exact nm hc e
  · rcases List.mem_append.1 hg' with q | q
    · exact rows2 g q
    · have q : g = _ := List.mem_singleton.1 q
      subst q; exact r3
  · have key : ∀ g ∈ cut G ep, ∀ k, g.v.ownBlock = some k → v'.ownBlock ≠ some k := by
      intro g hg' k hk hk2
      obtain ⟨hgG, hge⟩ := mem_cut.1 hg'
      rcases hat with e | e
      · rw [hk2] at e
        rcases find_at G ep with ⟨g0, hg0, e0, e1, -⟩ | ⟨e1, -⟩
        · rw [e1] at e; exact h.apart g hgG g0 hg0 (by rw [e0]; exact hge) k hk e.symm
        · rw [e1] at e; simp [nilV, Value.ownBlock] at e
      · rw [hk2] at e; injection e with e
        have := (own_blk (h.rows g hgG) hk).2.1
        omega
    rcases List.mem_append.1 ha with q | q <;> rcases List.mem_append.1 hb with q2 | q2
    · exact h.apart a (mem_cut.1 q).1 b (mem_cut.1 q2).1 hab k hk hk2
    · have q2 : b = _ := List.mem_singleton.1 q2
      subst q2; exact key a q k hk hk2
    · have q : a = _ := List.mem_singleton.1 q
      subst q; exact key b q2 k hk2 hk
    · have q : a = _ := List.mem_singleton.1 q
      have q2 : b = _ := List.mem_singleton.1 q2
      subst q q2; exact hab rfl
  · rw [List.pairwise_append]
    refine ⟨h.asc.filter _, by simp, fun a ha b hb => ?_⟩
    have hb : b = _ := List.mem_singleton.1 hb
    subst hb
    obtain ⟨q1, q2⟩ := mem_cut.1 ha
    have := h.top a q1
    show a.e < ep
    omega
  · rcases List.mem_append.1 hg' with q | q
    · exact h.top g (mem_cut.1 q).1
    · have q : g = _ := List.mem_singleton.1 q
      subst q; exact Int.le_refl _

set_option maxHeartbeats 8000000 in
set_option maxRecDepth 100000 in
theorem retire (h : PoolR B pb mb vin inn ep G w) (hB : B ≤ w.heap.size) (hep : 0 ≤ ep ∧ ep ≤ 1000000) (hn : G.length ≤ 1000000) (hx : (xsOf G ep).length ≤ 1000000) (x : Int) :
    Calls Try.prog 16 #[.pointer (some ⟨pb, 0, none⟩), .int .u64 x] w (Retired B pb mb vin inn ep G x w) := by
  obtain ⟨i0, hi, hzz⟩ := Option.map_eq_some_iff.1 info_u64
  simp only [Prod.mk.injEq] at hzz
  obtain ⟨hz0, hz1, hz2⟩ := hzz
  obtain ⟨⟨k0, k1, k2⟩, -⟩ := cells3 h.blk
  have hlp := lt_of_heap h.blk
  have LK := fun (w' : World) (hm : w'.ownsMap Try.prog 3 heldR mb G.length (dat G)) => lookup_eq hm ep (by omega)
  have k3 := LK w.drew h.map
  have hV := h.val ep
  have h63 : (xsOf G ep).length + 1 ≤ maxLen := by unfold maxLen; omega
  have h64 : ((xsOf G ep).length + 1) * 8 ≤ 140737488355328 := by omega
  have hmx : G.length < maxLen := by unfold maxLen; omega
  have o1 : Below w.heap.size w (w.drew.alloc (.cells #[.int .u64 x] 29)) := (below_drew (Below.refl _ _)).alloc (by simp) _
  have hV1 : (w.drew.alloc (.cells #[.int .u64 x] 29)).ownsRow B 29 1 (valOf G ep) (xsOf G ep).length ((xsOf G ep).map (Value.int .u64)) := own_keep hV (ofBelow (S := fun _ => False) o1) (fun _ _ x => x)
  have hM1 : (w.drew.alloc (.cells #[.int .u64 x] 29)).ownsMap Try.prog 3 heldR mb G.length (dat G) := World.ownsMap.alloc (w := w.drew) h.map _
  have j3 := LK _ hM1
  have hK1 := cells3 ((o1.block _ hlp).trans h.blk)
  have fin := fun w2 w3 v' n hr hg hat hm hg3 => retire_end (w2 := w2) (w3 := w3) (v' := v') (x := x) (n := n) h hB o1 hr hg hat hm hg3
  have hB1 : B ≤ (w.drew.alloc (.cells #[.int .u64 x] 29)).heap.size := Nat.le_trans hB o1.size
  have hmb : ∀ {w2 : World}, (w.drew.alloc (.cells #[.int .u64 x] 29)).grownBy w2 (valOf G ep).ownBlock → w2.ownsMap Try.prog 3 heldR mb G.length (dat G) := fun hg => hM1.kept hg (fun e2 => by
    obtain ⟨cs2, hc2⟩ := (own_blk hV1 e2.symm).2.2
    obtain ⟨es, clock, h1, -⟩ := hM1
    rw [hc2] at h1; simp at h1)
  have htop := h.top
  replace hV1 := Lib.hid hV1
  replace LK := Lib.hid LK
  have hmb := Lib.hid (fun w2 => @hmb w2)
  replace fin := Lib.hid fin
  replace htop := Lib.hid htop
  have hpb2 : ∀ w2, (w.drew.alloc (.cells #[.int .u64 x] 29)).grownBy w2 (valOf G ep).ownBlock → w2.cell? ⟨pb, 1, none⟩ = some (.int .i64 ep) ∧ w2.cell? ⟨pb, 2, none⟩ = some (.map (some mb)) := fun w2 hg => by
    have hb := (hg.block pb (Nat.lt_of_lt_of_le hlp o1.size) (fun e => own_ty hV1.out ((o1.block _ hlp).trans h.blk) (by decide) e.symm)).trans ((o1.block _ hlp).trans h.blk)
    exact (cells3 hb).1.2
  replace hpb2 := Lib.hid hpb2
  obtain ⟨⟨-, j1, j2⟩, -⟩ := hK1
  replace o1 := Lib.hid o1
  generalize valOf G ep = u at *
  generalize hxs : xsOf G ep = xs at *
  have hQ : ∀ e w', Retired B pb mb vin inn ep G x w e w' = (e = .returned (.tuple #[]) ∧ ∃ v', PoolR B pb mb vin inn ep (cut G ep ++ [⟨ep, v', xs ++ [x]⟩]) w' ∧ Only (PoolF pb mb vin G) w w' ∧ ∀ k, v'.ownBlock = some k → PoolF pb mb vin G k ∨ w.heap.size ≤ k) := fun e w' => by unfold Retired; rw [hxs]
  replace hQ := Lib.hid hQ
  clear h hV hM1 hxs
  go_enter Try.func16, Try.ntmps16
  go_wp2_with fail
  refine start_ (n := 21) (S := fun w' => w'.cell? ⟨pb, 1, none⟩ = some (.int .i64 ep) ∧ w'.cell? ⟨pb, 2, none⟩ = some (.map (some mb)) ∧ (Instr.lookup 50 (.map (some mb)) (.int .i64 ep) false).run Try.prog w' = .ok u w') (ds := [20]) #[false, false, false, false, false, false, false, false, false, false, false, false, false, false, false, false, false, false, false, false, false] (by kernel_rfl) rfl rfl ⟨k1, k2, k3⟩ (fun hHeld => ?_)
  refine pure_ (i := 0) (N := some 6) (v := ?_) (a' := ?_) #[true, false, false, false, false, false, false, false, false, false, false, false, false, false, false, false, false, false, false, false, false] rfl rfl (by kernel_rfl) (fun _ _ _ h => h) (Or.inl ⟨by rfl, ?_⟩) ?_ ?_
  rotate_left
  · intro w'
    go_simp
    with_reducible rfl
  rotate_left
  · simp only [Act.put, List.setIfInBounds_toArray, List.set_cons_zero, List.set_cons_succ, i64_w, i32_w]
    rfl
  refine pure_ (i := 1) (N := some 7) (v := ?_) (a' := ?_) #[true, true, false, false, false, false, false, false, false, false, false, false, false, false, false, false, false, false, false, false, false] rfl rfl (by kernel_rfl) (fun _ _ _ h => h) (Or.inl ⟨by rfl, ?_⟩) ?_ ?_
  rotate_left
  · intro w'
    go_simp
    with_reducible rfl
  rotate_left
  · simp only [Act.put, List.setIfInBounds_toArray, List.set_cons_zero, List.set_cons_succ, i64_w, i32_w]
    rfl
  refine pure_ (i := 2) (N := some 8) (v := ?_) (a' := ?_) #[true, true, true, false, false, false, false, false, false, false, false, false, false, false, false, false, false, false, false, false, false] rfl rfl (by kernel_rfl) (fun _ _ _ h => h) (Or.inl ⟨by rfl, ?_⟩) ?_ ?_
  rotate_left
  · intro w'
    go_simp
    with_reducible rfl
  rotate_left
  · simp only [Act.put, List.setIfInBounds_toArray, List.set_cons_zero, List.set_cons_succ, i64_w, i32_w]
    rfl
  refine pure_ (i := 4) (N := some 10) (v := ?_) (a' := ?_) #[true, true, true, false, true, false, false, false, false, false, false, false, false, false, false, false, false, false, false, false, false] rfl rfl (by kernel_rfl) (fun _ _ _ h => h) (Or.inl ⟨by rfl, ?_⟩) ?_ ?_
  rotate_left
  · intro w'
    go_simp
    with_reducible rfl
  rotate_left
  · simp only [Act.put, List.setIfInBounds_toArray, List.set_cons_zero, List.set_cons_succ, i64_w, i32_w]
    rfl
  refine pure_ (i := 5) (N := some 11) (v := ?_) (a' := ?_) #[true, true, true, false, true, true, false, false, false, false, false, false, false, false, false, false, false, false, false, false, false] rfl rfl (by kernel_rfl) (fun _ _ _ h => h) (Or.inl ⟨by rfl, ?_⟩) ?_ ?_
  rotate_left
  · intro w'
    go_simp
    with_reducible rfl
  rotate_left
  · simp only [Act.put, List.setIfInBounds_toArray, List.set_cons_zero, List.set_cons_succ, i64_w, i32_w]
    rfl
  refine pure_ (i := 6) (N := some 12) (v := ?_) (a' := ?_) #[true, true, true, false, true, true, true, false, false, false, false, false, false, false, false, false, false, false, false, false, false] rfl rfl (by kernel_rfl) (fun _ _ _ h => h) (Or.inl ⟨by rfl, ?_⟩) ?_ ?_
  rotate_left
  · intro w'
    go_simp
    with_reducible rfl
  rotate_left
  · simp only [Act.put, List.setIfInBounds_toArray, List.set_cons_zero, List.set_cons_succ, i64_w, i32_w]
    rfl
  refine pure_ (i := 8) (N := some 14) (v := ?_) (a' := ?_) #[true, true, true, false, true, true, true, false, true, false, false, false, false, false, false, false, false, false, false, false, false] rfl rfl (by kernel_rfl) (fun _ _ _ h => h) (Or.inl ⟨by rfl, ?_⟩) ?_ ?_
  rotate_left
  · intro w'
    go_simp
    with_reducible rfl
  rotate_left
  · simp only [Act.put, List.setIfInBounds_toArray, List.set_cons_zero, List.set_cons_succ, i64_w, i32_w]
    rfl
  refine pure_ (i := 9) (N := some 15) (v := ?_) (a' := ?_) #[true, true, true, false, true, true, true, false, true, true, false, false, false, false, false, false, false, false, false, false, false] rfl rfl (by kernel_rfl) (fun _ _ _ h => h) (Or.inl ⟨by rfl, ?_⟩) ?_ ?_
  rotate_left
  · intro w'
    go_simp
    with_reducible rfl
  rotate_left
  · simp only [Act.put, List.setIfInBounds_toArray, List.set_cons_zero, List.set_cons_succ, i64_w, i32_w]
    rfl
  refine pure_ (i := 10) (N := some 16) (v := ?_) (a' := ?_) #[true, true, true, false, true, true, true, false, true, true, true, false, false, false, false, false, false, false, false, false, false] rfl rfl (by kernel_rfl) (fun _ _ _ h => h) (Or.inl ⟨by rfl, ?_⟩) ?_ ?_
  rotate_left
  · intro w'
    go_simp
    with_reducible rfl
  rotate_left
  · simp only [Act.put, List.setIfInBounds_toArray, List.set_cons_zero, List.set_cons_succ, i64_w, i32_w]
    rfl
  refine pure_ (i := 12) (N := some 18) (v := ?_) (a' := ?_) #[true, true, true, false, true, true, true, false, true, true, true, false, true, false, false, false, false, false, false, false, false] rfl rfl (by kernel_rfl) (fun _ _ _ h => h) (Or.inl ⟨by rfl, ?_⟩) ?_ ?_
  rotate_left
  · intro w'
    go_simp
    with_reducible rfl
  rotate_left
  · simp only [Act.put, List.setIfInBounds_toArray, List.set_cons_zero, List.set_cons_succ, i64_w, i32_w]
    rfl
  refine pure_ (i := 13) (N := some 19) (v := ?_) (a' := ?_) #[true, true, true, false, true, true, true, false, true, true, true, false, true, true, false, false, false, false, false, false, false] rfl rfl (by kernel_rfl) (fun _ _ _ h => h) (Or.inl ⟨by rfl, ?_⟩) ?_ ?_
  rotate_left
  · intro w'
    go_simp
    with_reducible rfl
  rotate_left
  · simp only [Act.put, List.setIfInBounds_toArray, List.set_cons_zero, List.set_cons_succ, i64_w, i32_w]
    rfl
  refine pure_ (i := 14) (N := some 20) (v := ?_) (a' := ?_) #[true, true, true, false, true, true, true, false, true, true, true, false, true, true, true, false, false, false, false, false, false] rfl rfl (by kernel_rfl) (fun _ _ _ h => h) (Or.inl ⟨by rfl, ?_⟩) ?_ ?_
  rotate_left
  · intro w'
    go_simp
    with_reducible rfl
  rotate_left
  · simp only [Act.put, List.setIfInBounds_toArray, List.set_cons_zero, List.set_cons_succ, i64_w, i32_w]
    rfl
  refine pure_ (i := 17) (N := some 23) (v := ?_) (a' := ?_) #[true, true, true, false, true, true, true, false, true, true, true, false, true, true, true, false, false, true, false, false, false] rfl rfl (by kernel_rfl) (fun _ _ _ h => h) (Or.inl ⟨by rfl, ?_⟩) ?_ ?_
  rotate_left
  · intro w'
    go_simp
    with_reducible rfl
  rotate_left
  · simp only [Act.put, List.setIfInBounds_toArray, List.set_cons_zero, List.set_cons_succ, i64_w, i32_w]
    rfl
  refine take_ (i := 3) (N := some 9) (v := ?_) (a' := ?_) #[true, true, true, true, true, true, true, false, true, true, true, false, true, true, true, false, false, true, false, false, false] rfl rfl (by kernel_rfl) (fun _ _ _ h => h) (Or.inl ⟨by rfl, ?_⟩) hHeld ?_ ?_
  rotate_left
  · rintro w' ⟨s0, s1, s2⟩
    go_simp
    with_reducible rfl
  rotate_left
  · simp only [Act.put, List.setIfInBounds_toArray, List.set_cons_zero, List.set_cons_succ, i64_w, i32_w]
    rfl
  refine take_ (i := 7) (N := some 13) (v := ?_) (a' := ?_) #[true, true, true, true, true, true, true, true, true, true, true, false, true, true, true, false, false, true, false, false, false] rfl rfl (by kernel_rfl) (fun _ _ _ h => h) (Or.inl ⟨by rfl, ?_⟩) hHeld ?_ ?_
  rotate_left
  · rintro w' ⟨s0, s1, s2⟩
    go_simp
    with_reducible rfl
  rotate_left
  · simp only [Act.put, List.setIfInBounds_toArray, List.set_cons_zero, List.set_cons_succ, i64_w, i32_w]
    rfl
  refine take_ (i := 11) (N := some 17) (v := ?_) (a' := ?_) #[true, true, true, true, true, true, true, true, true, true, true, true, true, true, true, false, false, true, false, false, false] rfl rfl (by kernel_rfl) (fun _ _ _ h => h) (Or.inl ⟨by rfl, ?_⟩) hHeld ?_ ?_
  rotate_left
  · rintro w' ⟨s0, s1, s2⟩
    go_simp
    with_reducible rfl
  rotate_left
  · simp only [Act.put, List.setIfInBounds_toArray, List.set_cons_zero, List.set_cons_succ, i64_w, i32_w]
    rfl
  refine take_ (i := 15) (N := some 21) (v := ?_) (a' := ?_) #[true, true, true, true, true, true, true, true, true, true, true, true, true, true, true, true, false, true, false, false, false] rfl rfl (by kernel_rfl) (fun _ _ _ h => h) (Or.inl ⟨by rfl, ?_⟩) hHeld ?_ ?_
  rotate_left
  · rintro w' ⟨s0, s1, s2⟩
    go_simp
    with_reducible rfl
  rotate_left
  · simp only [Act.put, List.setIfInBounds_toArray, List.set_cons_zero, List.set_cons_succ, i64_w, i32_w]
    rfl
  refine take_ (i := 16) (N := some 22) (v := ?_) (a' := ?_) #[true, true, true, true, true, true, true, true, true, true, true, true, true, true, true, true, true, true, false, false, false] rfl rfl (by kernel_rfl) (fun _ _ _ h => h) (Or.inl ⟨by rfl, ?_⟩) hHeld ?_ ?_
  rotate_left
  · rintro w' ⟨s0, s1, s2⟩
    go_simp
    with_reducible rfl
  rotate_left
  · simp only [Act.put, List.setIfInBounds_toArray, List.set_cons_zero, List.set_cons_succ, i64_w, i32_w]
    rfl
  refine one_ (i := 18) (N := some 24) #[true, true, true, true, true, true, true, true, true, true, true, true, true, true, true, true, true, true, true, false, false] rfl rfl (by kernel_rfl) (by decide) (fun K hK => ?_)
  refine value_ (w1 := ?_) (v := ?_) (by rfl) rfl ?_ ?_
  rotate_left 2
  · go_simp
    constructor
    · rfl
    · rfl
  refine hK.out _ _ ⟨j1, j2, j3⟩ (fun hHeld => ?_)
  clear hK K
  refine norm_ (a' := ?_) ?_ ?_
  rotate_left
  · show Act.put _ (some 24) _ = _
    simp only [Act.put, List.setIfInBounds_toArray, List.set_cons_zero, List.set_cons_succ, i64_w, i32_w]
    rfl
  refine one_ (i := 19) (N := some 25) #[true, true, true, true, true, true, true, true, true, true, true, true, true, true, true, true, true, true, true, true, false] rfl rfl (by kernel_rfl) (by decide) (fun K hK => ?_)
  refine append1_arm (v := u) (by rfl) rfl rfl i0 (.int .u64 0) 8 Try.underlying41 hi hz0 hz1 hz2 rfl (n := xs.length) (xs := xs.map (Value.int .u64)) rfl _ _ rfl hV1.out hB1 (.int .u64 x) rfl (cell_one_new _ _ _) h63 h64 ?_
  intro v2 w2 hr2 hg2 hat2
  obtain ⟨m1, m2⟩ := hpb2.out w2 hg2
  have hM2 := hmb.out w2 hg2
  have m3 := LK.out w2 hM2
  replace hr2 := Lib.hid hr2
  replace hg2 := Lib.hid hg2
  replace hat2 := Lib.hid hat2
  replace hM2 := Lib.hid hM2
  refine hK.out _ _ ⟨m1, m2, m3⟩ (fun hHeld => ?_)
  clear hK K
  refine norm_ (a' := ?_) ?_ ?_
  rotate_left
  · show Act.put _ (some 25) _ = _
    simp only [Act.put, List.setIfInBounds_toArray, List.set_cons_zero, List.set_cons_succ, i64_w, i32_w]
    rfl
  refine last_ (i := 20) (N := none) #[true, true, true, true, true, true, true, true, true, true, true, true, true, true, true, true, true, true, true, true, true] rfl rfl (by kernel_rfl) (by decide) (fun K hK => ?_)
  refine update_arm (xs ++ [x]) (by rfl) rfl rfl rfl rfl rfl (by omega) hM2.out hmx htop.out ?_
  intro w3 hM3 hg3
  have fin3 := Lib.hid (fin.out w2 w3 v2 _ hr2.out hg2.out hat2.out hM3 hg3)
  clear hM3 hg3
  refine hK.out _ _ ?_
  clear hK K
  refine done_ (by kernel_rfl) ?_
  go_wp2
  have F := fin3.out
  exact bodyPost_end (v := .tuple #[]) (results_none Try.results16 _ _ _) rfl ((hQ.out _ _).symm ▸ ⟨rfl, v2, F.1, F.2.1, F.2.2⟩)
end
end Go.Proofs.Ytecjkpjcmgohmac.Ep
